/- The walk of the law FrameCut: a frame with bytes lacking is refused as short. -/
import Derived.Test.YtmccghadgihbpaaFrameEncodes
import Derived.Test.YtmccghadgihbpaaBack
namespace Go.Proofs.Ytmccghadgihbpaa.FrameCutWalk
open Go Go.RowKit Go.Proofs.Ytmccghadgihbpaa.PFrameBack Go.Proofs.YtmccghadgihbpaaW.PrintWords Go.Proofs.YtmccghadgihbpaaW.PrintLast Go.Proofs.YtmccghadgihbpaaW.PrintMore Go.Proofs.Ytmccghadgihbpaa.Keep Go.Proofs.Ytmccghadgihbpaa.Mem Go.Proofs.Ytmccghadgihbpaa.VPut Go.Proofs.Ytmccghadgihbpaa.VPlain Go.Proofs.Ytmccghadgihbpaa.With Go.Proofs.Ytmccghadgihbpaa.Spans Go.Proofs.Ytmccghadgihbpaa.Encode Go.Proofs.Ytmccghadgihbpaa.EncAck Go.Proofs.Ytmccghadgihbpaa.Frames Go.Proofs.Ytmccghadgihbpaa.Awake11 Go.Proofs.Ytmccghadgihbpaa.FrameEncodesWalk Go.Proofs.Ytmccghadgihbpaa.OpenFrame Go.Proofs.Ytmccghadgihbpaa.ParseS Go.Proofs.Ytmccghadgihbpaa.Parse Go.Proofs.Ytmccghadgihbpaa.Back Go.Proofs.Ytmccghadgihbpaa.CutF
set_option linter.unusedVariables false

theorem nums_len {x : S58} {l : List Int} (h : numsOf x = some l) : l.length ≤ 4 ∧ l ≠ [] := by
  unfold numsOf at h
  repeat' split at h
  all_goals first | (simp only [Option.some.injEq] at h; subst h; simp) | cases h
theorem shape_len {x : S58} {l : List Int} (h : Back.shape x l) : l.length ≤ 100 ∧ l ≠ [] := by
  rcases h with ⟨h0, hok, hd, rfl⟩ | ⟨h0, hn, hlen, hdk, hrg⟩
  · have : x.f7.length ≤ 32 := by unfold okS at hok; simp at hok; omega
    unfold ackNums
    refine ⟨?_, by simp⟩
    rw [List.length_append, gapsN_len]
    simp only [List.length_cons, List.length_nil]
    omega
  · have := nums_len hn
    exact ⟨by omega, this.2⟩
theorem vbytes_pos (n : Int) : 0 < (vbytes n).length := by unfold vbytes; (repeat' split) <;> simp
theorem bytes_len {x : S58} {l : List Int} (h : Back.shape x l) (hd : x.f6.length ≤ 3000) : 0 < (flat l ++ x.f6).length ∧ (flat l ++ x.f6).length ≤ 4000 := by
  obtain ⟨h1, h2⟩ := shape_len h
  have h3 := flat_len l
  rw [List.length_append]
  cases l with
  | nil => exact absurd rfl h2
  | cons n r =>
    have := vbytes_pos n
    simp only [flat, List.length_append] at h3 ⊢
    omega
theorem bytes_fit {x : S58} {l : List Int} (hB : B58 x) (hs : ∀ n ∈ l, sm n) : ∀ v ∈ flat l ++ x.f6, 0 ≤ v ∧ v < 256 := by
  intro v hv
  rcases List.mem_append.1 hv with h | h
  · exact flat_fit l hs v h
  · exact B58_data hB v h

set_option maxHeartbeats 4000000 in
set_option maxRecDepth 100000 in
theorem walk {w : World} (f0 f1 f2 f3 f4 : Int) (f5 : Bool) {A6 A7 : Option Addr} {c6 c7 : Nat} {data : List Int} {acks : List S84} (b0 : Encode.bd f0) (b1 : Encode.bd f1) (b2 : Encode.bd f2) (b3 : Encode.bd f3) (b4 : Encode.bd f4) (hC6 : CB w A6 data) (hc6 : data.length ≤ c6) (hC7 : Kd.C k84 w A7 acks.length acks) (hc7 : acks.length ≤ c7) (hB : B58 ⟨f0, f1, f2, f3, f4, f5, data, acks⟩) (cut : Int) (hu0 : 0 ≤ cut) (hu1 : cut < 65536) :
    Calls Try.prog 17 #[.agg #[.int .u64 f0, .int .u64 f1, .int .u64 f2, .int .u64 f3, .int .u64 f4, .bool f5, .slice A6 data.length c6, .slice A7 acks.length c7], .int .u16 cut] w fun e w' => e = .returned (.bool true) ∧ Below w.heap.size w w' := by
  have hk := heap_alloc_new w (.cells #[.int .u64 f0, .int .u64 f1, .int .u64 f2, .int .u64 f3, .int .u64 f4, .bool f5, .slice A6 data.length c6, .slice A7 acks.length c7] 58)
  have BL := (Below.refl w.heap.size w).alloc (Nat.le_refl _) (.cells #[.int .u64 f0, .int .u64 f1, .int .u64 f2, .int .u64 f3, .int .u64 f4, .bool f5, .slice A6 data.length c6, .slice A7 acks.length c7] 58)
  obtain ⟨w1, hw1⟩ : ∃ w1 : World, w1 = w.alloc (.cells #[.int .u64 f0, .int .u64 f1, .int .u64 f2, .int .u64 f3, .int .u64 f4, .bool f5, .slice A6 data.length c6, .slice A7 acks.length c7] 58) := ⟨_, rfl⟩
  rw [← hw1] at hk BL
  have HW1 := Lib.hid hw1
  have HK := Lib.hid hk
  have HBL := Lib.hid BL
  have HC6 := Lib.hid (Kd.C_below hC6 BL)
  have HC7 := Lib.hid (Kd.C_below hC7 BL)
  have hba := B58_acks hB
  have HBA := Lib.hid hba
  have HBB := Lib.hid hB
  clear hw1 hk BL hC6 hC7 hba hB
  go_enter Try.func17, Try.ntmps17
  go_upto_region 1 with fail
  rw [← HW1.out]
  clear HW1
  go_wp2_with fail
  refine (awake w1).mono ?_
  rintro e w2 ⟨rfl, B2⟩
  have HK2 := Lib.hid (blk_below HK.out B2)
  have HC62 := Lib.hid (Kd.C_below HC6.out B2)
  have HC72 := Lib.hid (Kd.C_below HC7.out B2)
  have HB2 := Lib.hid (HBL.out.trans (B2.mono HBL.out.size))
  clear B2
  obtain ⟨k0, k1, k2, k3, k4, k5, k6, k7⟩ := cells8 HK2.out
  go_wp2_with fail
  have hk3 := heap_alloc_new w2 (.cells #[.int .u64 f0, .int .u64 f1, .int .u64 f2, .int .u64 f3, .int .u64 f4, .bool f5, .slice A6 data.length c6, .slice A7 acks.length c7] 58)
  have BL3 := (Below.refl w2.heap.size w2).alloc (Nat.le_refl _) (.cells #[.int .u64 f0, .int .u64 f1, .int .u64 f2, .int .u64 f3, .int .u64 f4, .bool f5, .slice A6 data.length c6, .slice A7 acks.length c7] 58)
  have GC := great_calls (c := 1) (C_one58 ⟨f0, f1, f2, f3, f4, f5, data, acks⟩ hk3 hc6 (Kd.C_below HC62.out BL3) hc7 (Kd.C_below HC72.out BL3)) (Nat.le_refl _)
  have hgr : greatB [⟨f0, f1, f2, f3, f4, f5, data, acks⟩] = decide (data.length > 3000 ∨ acks.length > 100) := by simp [greatB, greatF]
  rw [hgr] at GC
  by_cases hg : data.length > 3000 ∨ acks.length > 100
  · rw [decide_eq_true hg] at GC
    have HGC := Lib.hid GC
    have HBL3 := Lib.hid BL3
    clear hk3 BL3 GC hgr hg k0 k1 k2 k3 k4 k5 k6 k7
    refine HGC.out.mono ?_
    rintro e w3 ⟨rfl, B3⟩
    go_wp2_with fail
    go_ret
    exact ⟨rfl, HB2.out.trans ((HBL3.out.trans (B3.mono HBL3.out.size)).mono HB2.out.size)⟩
  · rw [decide_eq_false hg] at GC
    have HGC := Lib.hid GC
    have hd1 : data.length ≤ 3000 := by omega
    have hd2 : acks.length ≤ 1000 := by omega
    have HBL3 := Lib.hid BL3
    clear hk3 BL3 GC hgr hg k0 k1 k2 k3 k4 k5 k6 k7
    refine HGC.out.mono ?_
    rintro e w3 ⟨rfl, B3⟩
    have B23 := HBL3.out.trans (B3.mono HBL3.out.size)
    have HK3 := Lib.hid (blk_below HK2.out B23)
    have HC63 := Lib.hid (Kd.C_below HC62.out B23)
    have HC73 := Lib.hid (Kd.C_below HC72.out B23)
    have HB3 := Lib.hid (HB2.out.trans (B23.mono HB2.out.size))
    clear B3 B23 HBL3 HGC
    obtain ⟨k0, k1, k2, k3, k4, k5, k6, k7⟩ := cells8 HK3.out
    have EN := enc_any f0 f1 f2 f3 f4 f5 b0 b1 b2 b3 b4 HC63.out hc6 hd1 HC73.out hc7 HBA.out hd2
    obtain ⟨r, hr⟩ : ∃ r, encF okS ackOf ⟨f0, f1, f2, f3, f4, f5, data, acks⟩ = r := ⟨_, rfl⟩
    obtain ⟨bb, r2⟩ := r
    have HR := Lib.hid hr
    rw [hr] at EN
    have HEN := Lib.hid EN
    clear hr EN
    by_cases hz : r2 = 0
    · subst hz
      obtain ⟨l, hsh, hsm, hbb⟩ := enc_shape HBB.out HR.out
      have hbl := bytes_len hsh hd1
      have hbf := bytes_fit HBB.out hsm
      have hpc := fun k hk => parse_cut HBB.out hsh hsm k hk
      rw [← hbb] at hbl hbf
      simp only [← hbb] at hpc
      obtain ⟨hbl0, hbl1⟩ := hbl
      have HBF := Lib.hid hbf
      have HPC := Lib.hid hpc
      clear hbb hsh hsm hbf hpc HR
      go_wp2_with fail
      refine HEN.out.mono ?_
      rintro e w4 ⟨v3, rfl, R4, B4⟩
      obtain ⟨A9, c9, rfl, hc9, hC9, -⟩ := RB.read R4
      have HC9 := Lib.hid hC9
      have HB4 := Lib.hid (HB3.out.trans (B4.mono HB3.out.size))
      clear HEN B4 R4 hC9 k0 k1 k2 k3 k4 k5 k6 k7
      have hbn : bb.length ≠ 0 := by omega
      have hbnl : ¬ bb = [] := fun h => hbn (by rw [h]; rfl)
      obtain ⟨m, hm⟩ : ∃ m : Nat, cut % (bb.length : Int) = m := Int.eq_ofNat_of_zero_le (Int.emod_nonneg _ (by omega))
      have hmlt : m < bb.length := by
        have := Int.emod_lt_of_pos cut (b := (bb.length : Int)) (by omega)
        omega
      have htd : cut.tmod (bb.length : Int) = m := by rw [Int.tmod_eq_emod_of_nonneg hu0]; exact hm
      have htk := takeB .i64 (A := A9) (c := c9) (xs := bb) (m := m) (by omega) hc9
      have tml : (bb.take m).length = m := by simp; omega
      have TC := parse_calls (w := w4) (A := A9) (c := c9) (b := bb.take m) (Kd.C_take (m := m) HC9.out (by omega)) (by simp; omega) (fun x hx => HBF.out x (List.mem_of_mem_take hx)) (by omega)
      rw [HPC.out m hmlt, tml] at TC
      have hcw : IntKind.i64.wrap cut = cut := by rw [IntKind.wrap_i64]; omega
      have hcw' : wrap64 cut = cut := by unfold wrap64; omega
      have HM := Lib.hid hm
      rw [tml] at htk
      by_cases hm0 : m = 0
      · subst hm0
        rw [if_pos rfl] at TC
        have HTC := Lib.hid TC
        clear TC tml hm
        go_wp2_with fail
        refine HTC.out.mono ?_
        rintro e w5 ⟨v9, rfl, R9, B9⟩
        obtain ⟨A8, c8, e8, -, -⟩ := Kd.R_reads R9
        subst e8
        have HB9 := Lib.hid (HB4.out.trans (B9.mono HB4.out.size))
        clear R9 B9
        go_wp2_with fail
        go_ret
        exact ⟨rfl, HB9.out⟩
      · rw [if_neg hm0] at TC
        have HTC := Lib.hid TC
        have t0 : ((m : Int) == 0) = false := by simp [hm0]
        have t1 : decide ((m : Int) = 0) = false := by simp [hm0]
        clear TC tml hm hm0
        go_wp2_with fail
        refine HTC.out.mono ?_
        rintro e w5 ⟨v9, rfl, R9, B9⟩
        obtain ⟨A8, c8, e8, -, -⟩ := Kd.R_reads R9
        subst e8
        have HB9 := Lib.hid (HB4.out.trans (B9.mono HB4.out.size))
        clear R9 B9
        go_wp2_with fail
        go_ret
        exact ⟨rfl, HB9.out⟩
    · have tz : (r2 != 0) = true := by simp [hz]
      clear hz HR
      go_wp2_with fail
      refine HEN.out.mono ?_
      rintro e w4 ⟨v3, rfl, R4, B4⟩
      have HB4 := Lib.hid (HB3.out.trans (B4.mono HB3.out.size))
      clear HEN B4 R4 k0 k1 k2 k3 k4 k5 k6 k7
      go_wp2_with fail
      go_ret
      exact ⟨rfl, HB4.out⟩

theorem law {w : World} {x : S58} {cs : List Value} (hK : k58.K w x cs) (hB : B58 x) (cut : Int) (hc : (Lit.int .u16 cut).wf = true) :
    Calls Try.prog 17 #[.agg cs.toArray, .int .u16 cut] w fun e w' => e = .returned (.bool true) ∧ Below w.heap.size w w' := by
  obtain ⟨A6, c6, A7, c7, rfl, l6, g6, l7, g7⟩ := k58_open hK
  have hc' : 0 ≤ cut ∧ cut < 65536 := by
    simp [Lit.wf, IntKind.min, IntKind.max, IntKind.bits, IntKind.signed] at hc
    omega
  exact walk x.f0 x.f1 x.f2 x.f3 x.f4 x.f5 (wf64_bd hB.1) (wf64_bd hB.2.1) (wf64_bd hB.2.2.1) (wf64_bd hB.2.2.2.1) (wf64_bd hB.2.2.2.2.1) g6 l6 g7 l7 hB cut hc'.1 hc'.2
end Go.Proofs.Ytmccghadgihbpaa.FrameCutWalk

