/- The walk of the law HeadCut: a head with bytes lacking is refused as short. -/
import Derived.Test.YtmccghadgihbpaaTakePlain
import Derived.Test.YtmccghadgihbpaaPHeadPutsx1
import Derived.RegionTactic
import Derived.Deep.Cut
import Derived.Outline
namespace Go.Proofs.Ytmccghadgihbpaa.HeadCutWalk
open Go Go.RowKit Go.Proofs.YtmccghadgihbpaaW.PrintWords Go.Proofs.YtmccghadgihbpaaW.PrintLast Go.Proofs.YtmccghadgihbpaaW.PrintMore Go.Proofs.Ytmccghadgihbpaa.Keep Go.Proofs.Ytmccghadgihbpaa.Mem Go.Proofs.Ytmccghadgihbpaa.Reader Go.Proofs.Ytmccghadgihbpaa.Take Go.Proofs.Ytmccghadgihbpaa.TakePlain
set_option linter.unusedVariables false

theorem awake (w : World) : Calls Try.prog 18 #[] w fun e w' => e = .returned (.bool true) ∧ Below w.heap.size w w' :=
  PHeadPuts.skifflaw12_Awake.calls 5 true w (by decide +kernel)

theorem eight {l : List Int} (h : l.length = 8) : ∃ a0 a1 a2 a3 a4 a5 a6 a7, l = [a0, a1, a2, a3, a4, a5, a6, a7] := by
  match l, h with
  | [a0, a1, a2, a3, a4, a5, a6, a7], _ => exact ⟨a0, a1, a2, a3, a4, a5, a6, a7, rfl⟩

set_option maxHeartbeats 2000000 in
set_option maxRecDepth 100000 in
theorem walk {w : World} (space size cut a0 a1 a2 a3 a4 a5 a6 a7 b0 b1 b2 b3 b4 b5 b6 b7 : Int) (hs0 : 0 ≤ space) (hs1 : space < 256) (hz0 : 0 ≤ size) (hz1 : size < 256) (hc0 : 0 ≤ cut) (hc1 : cut < 256)
    (hA : ∀ x ∈ [a0, a1, a2, a3, a4, a5, a6, a7], 0 ≤ x ∧ x < 256) (hB : ∀ x ∈ [b0, b1, b2, b3, b4, b5, b6, b7], 0 ≤ x ∧ x < 256) :
    Calls Try.prog 13 #[.int .u8 space, .agg #[.int .u8 a0, .int .u8 a1, .int .u8 a2, .int .u8 a3, .int .u8 a4, .int .u8 a5, .int .u8 a6, .int .u8 a7], .agg #[.int .u8 b0, .int .u8 b1, .int .u8 b2, .int .u8 b3, .int .u8 b4, .int .u8 b5, .int .u8 b6, .int .u8 b7], .int .u8 size, .int .u8 cut] w fun e w' => e = .returned (.bool true) ∧ Below w.heap.size w w' := by
  have HA := Lib.hid hA
  have HB := Lib.hid hB
  clear hA hB
  go_enter Try.func13, Try.ntmps13
  go_wp2_with fail
  have CA := C_lit .u8 w 65 [a0, a1, a2, a3, a4, a5, a6, a7] (by simp)
  have hsA : (w.alloc (.cells ([a0, a1, a2, a3, a4, a5, a6, a7].map (Value.int .u8)).toArray 65)).heap.size = w.heap.size + 1 := by simp
  have BA := (Below.refl w.heap.size w).alloc (Nat.le_refl _) (.cells ([a0, a1, a2, a3, a4, a5, a6, a7].map (Value.int .u8)).toArray 65)
  obtain ⟨w1, hw1⟩ : ∃ w1 : World, w.alloc (.cells ([a0, a1, a2, a3, a4, a5, a6, a7].map (Value.int .u8)).toArray 65) = w1 := ⟨_, rfl⟩
  rw [hw1] at CA hsA BA
  rw [show w.alloc (.cells #[.int .u8 a0, .int .u8 a1, .int .u8 a2, .int .u8 a3, .int .u8 a4, .int .u8 a5, .int .u8 a6, .int .u8 a7] 65) = w1 from hw1]
  clear hw1
  have CB := C_lit .u8 w1 65 [b0, b1, b2, b3, b4, b5, b6, b7] (by simp)
  have hsB : (w1.alloc (.cells ([b0, b1, b2, b3, b4, b5, b6, b7].map (Value.int .u8)).toArray 65)).heap.size = w1.heap.size + 1 := by simp
  have BB := (Below.refl w1.heap.size w1).alloc (Nat.le_refl _) (.cells ([b0, b1, b2, b3, b4, b5, b6, b7].map (Value.int .u8)).toArray 65)
  obtain ⟨w2, hw2⟩ : ∃ w2 : World, w1.alloc (.cells ([b0, b1, b2, b3, b4, b5, b6, b7].map (Value.int .u8)).toArray 65) = w2 := ⟨_, rfl⟩
  rw [hw2] at CB hsB BB
  rw [show w1.alloc (.cells #[.int .u8 b0, .int .u8 b1, .int .u8 b2, .int .u8 b3, .int .u8 b4, .int .u8 b5, .int .u8 b6, .int .u8 b7] 65) = w2 from hw2]
  clear hw2
  have CA2 := Kd.C_below CA BB
  refine (awake _).mono ?_
  rintro e w3 ⟨rfl, B3⟩
  have hs3 := B3.size
  have HCA := Lib.hid (Kd.C_below CA2 B3)
  have HCB := Lib.hid (Kd.C_below CB B3)
  have HB3 := Lib.hid ((BA.trans (BB.mono (by omega))).trans (B3.mono (by omega)))
  rw [hsA] at HCB
  clear CA CA2 CB BA BB B3
  go_upto_region 3 with fail
  obtain ⟨sp, hsp⟩ : ∃ sp, space % 2 = sp := ⟨_, rfl⟩
  have hsp2 : sp = 0 ∨ sp = 1 := by omega
  have hsw : wrap64 sp = sp := by unfold wrap64; omega
  have hsw2 : IntKind.i64.wrap sp = sp := by rw [IntKind.wrap_i64]; omega
  go_cut [11] from 19 (fun v wx => ∃ hb : Nat, v = .pointer (some ⟨hb, 0, none⟩) ∧ Hid (wx.heap[hb]? = some (.cells #[.int .i64 sp, .slice (some ⟨w.heap.size, 0, none⟩) 8 8, .slice (some ⟨w.heap.size + 1, 0, none⟩) 8 8] 32 (0, 0))) ∧ Hid (Below w3.heap.size w3 wx) ∧ w3.heap.size ≤ hb)
  case first =>
    go_region
    go_wp2_with fail
    go_meet
    case rel => exact ⟨w3.heap.size, rfl, Lib.hid (blk_drew (heap_alloc_new _ _)), Lib.hid (((Below.refl w3.heap.size w3).alloc (Nat.le_refl _) _).drew), Nat.le_refl _⟩
  case rest =>
    obtain ⟨hb, rfl, HK4, HB4, hhb⟩ := hcut
    obtain ⟨k0, k1, k2, f0, f1, f2⟩ := box3 HK4.out
    obtain ⟨t, htl, htx, hput⟩ := put_long sp 7 1 size [a0, a1, a2, a3, a4, a5, a6, a7] [b0, b1, b2, b3, b4, b5, b6, b7] hsp2 rfl rfl (by omega) (by omega) hz0 (by omega)
    have hcutD := fun k hk => long_cut sp 1 size [a0, a1, a2, a3, a4, a5, a6, a7] [b0, b1, b2, b3, b4, b5, b6, b7] t hsp2 rfl rfl (by omega) (by omega) hz0 (by omega) htl k hk
    have hbx : ∀ x ∈ longB sp 1 size [a0, a1, a2, a3, a4, a5, a6, a7] [b0, b1, b2, b3, b4, b5, b6, b7] t, 0 ≤ x ∧ x < 256 := long_bd sp 1 size _ _ t hsp2 (by omega) (by omega) hz0 (by omega) HA.out HB.out htx
    have hlen : (longB sp 1 size [a0, a1, a2, a3, a4, a5, a6, a7] [b0, b1, b2, b3, b4, b5, b6, b7] t).length = 25 + (if sp = 0 then [0] else ([] : List Int)).length + 1 := by
      unfold longB
      simp only [List.length_cons, List.length_append, List.length_nil, htl]
      omega
    have hl2 : (if sp = 0 then [0] else ([] : List Int)).length ≤ 1 := by split <;> simp
    generalize longB sp 1 size [a0, a1, a2, a3, a4, a5, a6, a7] [b0, b1, b2, b3, b4, b5, b6, b7] t = bb at *
    have hbl : 26 ≤ bb.length ∧ bb.length ≤ 27 := by omega
    have PC : Calls Try.prog 23 #[.agg #[.int .i64 sp, .slice (some ⟨w.heap.size, 0, none⟩) 8 8, .slice (some ⟨w.heap.size + 1, 0, none⟩) 8 8], .int .u64 7, .int .i64 1, .int .i64 size] wc fun e w' => ∃ v0_ : Value, e = .returned (.tuple #[v0_, .int .i64 0]) ∧ Kd.R (Kd.int .u8) 5 w' wc.heap.size (fun _ => True) v0_ bb ∧ Below wc.heap.size wc w' :=
      PHeadBack.head_Put.calls 10 sp (some ⟨w.heap.size, 0, none⟩) 8 [a0, a1, a2, a3, a4, a5, a6, a7] (some ⟨w.heap.size + 1, 0, none⟩) 8 [b0, b1, b2, b3, b4, b5, b6, b7] 7 1 size bb 0 wc (Kd.C_below HCA.out HB4.out) (Nat.le_refl _) (Kd.C_below HCB.out HB4.out) (Nat.le_refl _) hput
    obtain ⟨hbl1, hbl2⟩ := hbl
    have HPC := Lib.hid PC
    have HCD := Lib.hid hcutD
    have HBX := Lib.hid hbx
    have HW3 := Lib.hid hs3
    clear hput hcutD hbx hlen hl2 htl htx PC hs3
    have hszw : IntKind.i64.wrap size = size := by rw [IntKind.wrap_i64]; omega
    have hszw' : wrap64 size = size := by unfold wrap64; omega
    have hcw : IntKind.i64.wrap cut = cut := by rw [IntKind.wrap_i64]; omega
    have hcw' : wrap64 cut = cut := by unfold wrap64; omega
    go_wp2_with fail
    refine HPC.out.mono ?_
    clear HPC
    rintro e w5 ⟨v9, rfl, R9, B9⟩
    obtain ⟨A9, c9, rfl, hc9, hC9, -⟩ := RB.read R9
    have HC9 := Lib.hid hC9
    have HB9 := Lib.hid ((HB3.out.trans (HB4.out.mono (by have := HW3.out; omega))).trans (B9.mono (by have := HW3.out; have := HB4.out.size; omega)))
    clear R9 B9 hC9 k0 k1 k2 f0 f1 f2
    have hbn : bb.length ≠ 0 := by omega
    have hbnl : ¬ bb = [] := fun h => hbn (by rw [h]; rfl)
    obtain ⟨m, hm⟩ : ∃ m : Nat, cut % (bb.length : Int) = m := Int.eq_ofNat_of_zero_le (Int.emod_nonneg _ (by omega))
    have hmlt : m < bb.length := by
      have := Int.emod_lt_of_pos cut (b := (bb.length : Int)) (by omega)
      omega
    have htd : cut.tmod (bb.length : Int) = m := by rw [Int.tmod_eq_emod_of_nonneg hc0]; exact hm
    have htk := takeB .i64 (A := A9) (c := c9) (xs := bb) (m := m) (by omega) hc9
    have tml : (bb.take m).length = m := by simp; omega
    have TC := take_calls (w := w5) (A := A9) (c := c9) (b := bb.take m) (Kd.C_take (m := m) HC9.out (by omega)) (by simp; omega) (fun x hx => HBX.out x (List.mem_of_mem_take hx)) (by simp; omega)
    rw [HCD.out m hmlt, tml] at TC
    simp only [D] at TC
    have HTC := Lib.hid TC
    rw [tml] at htk
    clear TC tml
    go_wp2_with fail
    refine HTC.out.mono ?_
    clear HTC
    rintro e w6 ⟨v1, v2, rfl, R1, R2, B6⟩
    obtain ⟨A1, c1, rfl, hc1', hC1, -⟩ := R1.read
    obtain ⟨A2, c2, rfl, hc2', hC2, -⟩ := R2.read
    have HB6 := Lib.hid (HB9.out.trans (B6.mono HB9.out.size))
    have SM : ∀ W, Below w6.heap.size w6 W → Calls Try.prog 43 #[.agg #[.int .i64 0, .slice A1 0 c1, .slice A2 0 c2], .agg #[.int .i64 0, .slice none 0 0, .slice none 0 0]] W fun e w' => e = .returned (.bool true) ∧ Below W.heap.size W w' := fun W hW =>
      PHeadBack.skifflaw12_same.calls 0 A1 c1 [] A2 c2 [] 0 none 0 [] none 0 [] true W (Kd.C_below hC1 hW) hc1' (Kd.C_below hC2 hW) hc2' (Kd.C_nil _ _) (Nat.le_refl _) (Kd.C_nil _ _) (Nat.le_refl _) (by simp [PHeadBack.skifflaw12_same.f])
    have HSM := Lib.hid SM
    clear R1 R2 B6 hC1 hC2 SM
    go_wp2_with fail
    have BL := (Below.refl w6.heap.size w6).alloc (Nat.le_refl _) (.cells #[.int .i64 0, .slice A1 0 c1, .slice A2 0 c2] 32)
    refine (HSM.out _ BL).mono ?_
    rintro e w7 ⟨rfl, B7⟩
    have HB7 := Lib.hid ((HB6.out.trans (BL.mono HB6.out.size)).trans (B7.mono (Nat.le_trans HB6.out.size BL.size)))
    clear BL B7
    go_wp2_with fail
    go_ret
    exact ⟨rfl, HB7.out⟩

theorem law {w : World} (space size cut : Int) {la lb : List Int} (hs : (Lit.int .u8 space).wf = true) (hz : (Lit.int .u8 size).wf = true) (hc : (Lit.int .u8 cut).wf = true) (ha : la.length = 8) (hb : lb.length = 8) (hA : ∀ x ∈ la, (Lit.int .u8 x).wf = true) (hB : ∀ x ∈ lb, (Lit.int .u8 x).wf = true) :
    Calls Try.prog 13 #[.int .u8 space, .agg (la.map (Value.int .u8)).toArray, .agg (lb.map (Value.int .u8)).toArray, .int .u8 size, .int .u8 cut] w fun e w' => e = .returned (.bool true) ∧ Below w.heap.size w w' := by
  have W : ∀ x : Int, (Lit.int .u8 x).wf = true → 0 ≤ x ∧ x < 256 := by
    intro x h
    simp [Lit.wf, IntKind.min, IntKind.max, IntKind.bits, IntKind.signed] at h
    omega
  obtain ⟨a0, a1, a2, a3, a4, a5, a6, a7, rfl⟩ := eight ha
  obtain ⟨b0, b1, b2, b3, b4, b5, b6, b7, rfl⟩ := eight hb
  exact walk space size cut a0 a1 a2 a3 a4 a5 a6 a7 b0 b1 b2 b3 b4 b5 b6 b7 (W _ hs).1 (W _ hs).2 (W _ hz).1 (W _ hz).2 (W _ hc).1 (W _ hc).2 (fun x hx => W x (hA x hx)) (fun x hx => W x (hB x hx))
end Go.Proofs.Ytmccghadgihbpaa.HeadCutWalk
