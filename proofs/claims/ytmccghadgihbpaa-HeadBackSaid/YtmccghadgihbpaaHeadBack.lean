/- The walk of the law HeadBack: a head that was put is taken, with its packet's end, whatever stands behind. -/
import Derived.Test.YtmccghadgihbpaaTakePlain
import Derived.Test.YtmccghadgihbpaaPHeadPutsx1
import Derived.RegionTactic
import Derived.Deep.Cut
import Derived.Outline
namespace Go.Proofs.Ytmccghadgihbpaa.HeadBackWalk
open Go Go.RowKit Go.Proofs.YtmccghadgihbpaaW.PrintWords Go.Proofs.YtmccghadgihbpaaW.PrintLast Go.Proofs.YtmccghadgihbpaaW.PrintMore Go.Proofs.Ytmccghadgihbpaa.Keep Go.Proofs.Ytmccghadgihbpaa.Mem Go.Proofs.Ytmccghadgihbpaa.Reader Go.Proofs.Ytmccghadgihbpaa.Take Go.Proofs.Ytmccghadgihbpaa.TakePlain
set_option linter.unusedVariables false

theorem awake (w : World) : Calls Try.prog 18 #[] w fun e w' => e = .returned (.bool true) ∧ Below w.heap.size w w' :=
  PHeadPuts.skifflaw12_Awake.calls 5 true w (by decide +kernel)

theorem eight {l : List Int} (h : l.length = 8) : ∃ a0 a1 a2 a3 a4 a5 a6 a7, l = [a0, a1, a2, a3, a4, a5, a6, a7] := by
  match l, h with
  | [a0, a1, a2, a3, a4, a5, a6, a7], _ => exact ⟨a0, a1, a2, a3, a4, a5, a6, a7, rfl⟩

theorem head_all (sp pn n size : Int) (tt ff : List Int) (h0 : 0 ≤ sp) (h3 : sp < 3) (ht : tt.length = 8) (hf : ff.length = 8) (hA : ∀ x ∈ tt, 0 ≤ x ∧ x < 256) (hB : ∀ x ∈ ff, 0 ≤ x ∧ x < 256) (n1 : 1 ≤ n) (n4 : n ≤ 4) (z0 : 0 ≤ size) (z1 : size ≤ 1200) :
    ∃ bb, PHeadBack.head_Put.f 10 sp tt ff pn n size = some (bb, 0) ∧ (∀ x ∈ bb, 0 ≤ x ∧ x < 256) ∧ n ≤ bb.length ∧ bb.length ≤ 40 ∧
      ∀ more : List Int, size ≤ more.length → takeR (bb ++ more) = ⟨sp, tt, if sp = 2 then [] else ff, (bb.length : Int) - n, if sp = 2 then ((bb ++ more).length : Int) else (bb.length : Int) + size, 0⟩ := by
  by_cases h2 : sp = 2
  · subst h2
    obtain ⟨t, hl, hx, hp⟩ := put_short pn n size tt ff ht n1 n4 z0 z1
    refine ⟨_, hp, short_bd n tt t n1 n4 hA hx, ?_, ?_, fun more hm => ?_⟩
    · unfold shortB; simp only [List.length_cons, List.length_append, ht, hl]; omega
    · unfold shortB; simp only [List.length_cons, List.length_append, ht, hl]; omega
    · rw [short_take n tt t more ht n1 n4, if_pos rfl, if_pos rfl]
      have : ((shortB n tt t).length : Int) - n = 9 := by unfold shortB; simp only [List.length_cons, List.length_append, ht, hl]; omega
      rw [this]
  · have hsp : sp = 0 ∨ sp = 1 := by omega
    obtain ⟨t, hl, hx, hp⟩ := put_long sp pn n size tt ff hsp ht hf n1 n4 z0 z1
    have hl2 : (if sp = 0 then [0] else ([] : List Int)).length ≤ 1 := by split <;> simp
    refine ⟨_, hp, long_bd sp n size tt ff t hsp n1 n4 z0 z1 hA hB hx, ?_, ?_, fun more hm => ?_⟩
    · unfold longB; simp only [List.length_cons, List.length_append, List.length_nil, ht, hf, hl]; omega
    · unfold longB; simp only [List.length_cons, List.length_append, List.length_nil, ht, hf, hl]; omega
    · rw [long_take sp n size tt ff t more hsp ht hf n1 n4 z0 z1 hl hm, if_neg h2, if_neg h2]

set_option maxHeartbeats 2000000 in
set_option maxRecDepth 100000 in
theorem walk {w : World} (space pn bytes size a0 a1 a2 a3 a4 a5 a6 a7 b0 b1 b2 b3 b4 b5 b6 b7 : Int) {A6 : Option Addr} {c6 : Nat} {l6 : List Int} (hs0 : 0 ≤ space) (hs1 : space < 256) (hy0 : 0 ≤ bytes) (hy1 : bytes < 256) (hz0 : 0 ≤ size) (hz1 : size < 256)
    (hA : ∀ x ∈ [a0, a1, a2, a3, a4, a5, a6, a7], 0 ≤ x ∧ x < 256) (hB : ∀ x ∈ [b0, b1, b2, b3, b4, b5, b6, b7], 0 ≤ x ∧ x < 256) (hC6 : CB w A6 l6) (hc6 : l6.length ≤ c6) (hx6 : ∀ x ∈ l6, 0 ≤ x ∧ x < 256) (hl6 : l6.length ≤ 1000) :
    Calls Try.prog 12 #[.int .u8 space, .agg #[.int .u8 a0, .int .u8 a1, .int .u8 a2, .int .u8 a3, .int .u8 a4, .int .u8 a5, .int .u8 a6, .int .u8 a7], .agg #[.int .u8 b0, .int .u8 b1, .int .u8 b2, .int .u8 b3, .int .u8 b4, .int .u8 b5, .int .u8 b6, .int .u8 b7], .int .u64 pn, .int .u8 bytes, .int .u8 size, .slice A6 l6.length c6] w fun e w' => e = .returned (.bool true) ∧ Below w.heap.size w w' := by
  have HA := Lib.hid hA
  have HB := Lib.hid hB
  have HC6 := Lib.hid hC6
  have HX6 := Lib.hid hx6
  clear hA hB hC6 hx6
  go_enter Try.func12, Try.ntmps12
  go_wp2_with fail
  have CA := C_lit .u8 w 65 [a0, a1, a2, a3, a4, a5, a6, a7] (by simp)
  have hsA : (w.alloc (.cells ([a0, a1, a2, a3, a4, a5, a6, a7].map (Value.int .u8)).toArray 65)).heap.size = w.heap.size + 1 := by simp
  have BA := (Below.refl w.heap.size w).alloc (Nat.le_refl _) (.cells ([a0, a1, a2, a3, a4, a5, a6, a7].map (Value.int .u8)).toArray 65)
  obtain ⟨w1, hw1⟩ : ∃ w1 : World, w.alloc (.cells ([a0, a1, a2, a3, a4, a5, a6, a7].map (Value.int .u8)).toArray 65) = w1 := ⟨_, rfl⟩
  rw [hw1] at CA hsA BA
  rw [show w.alloc (.cells #[.int .u8 a0, .int .u8 a1, .int .u8 a2, .int .u8 a3, .int .u8 a4, .int .u8 a5, .int .u8 a6, .int .u8 a7] 65) = w1 from hw1]
  clear hw1
  have CB := C_lit .u8 w1 65 [b0, b1, b2, b3, b4, b5, b6, b7] (by simp)
  have hsB : (w1.alloc (.cells ([b0, b1, b2, b3, b4, b5, b6, b7].map (Value.int .u8)).toArray 65)).heap.size = w1.heap.size + 1 := by simp
  have BB := (Below.refl w1.heap.size w1).alloc (Nat.le_refl _) (.cells ([b0, b1, b2, b3, b4, b5, b6, b7].map (Value.int .u8)).toArray 65)
  obtain ⟨w2, hw2⟩ : ∃ w2 : World, w1.alloc (.cells ([b0, b1, b2, b3, b4, b5, b6, b7].map (Value.int .u8)).toArray 65) = w2 := ⟨_, rfl⟩
  rw [hw2] at CB hsB BB
  rw [show w1.alloc (.cells #[.int .u8 b0, .int .u8 b1, .int .u8 b2, .int .u8 b3, .int .u8 b4, .int .u8 b5, .int .u8 b6, .int .u8 b7] 65) = w2 from hw2]
  clear hw2
  have CA2 := Kd.C_below CA BB
  refine (awake _).mono ?_
  rintro e w3 ⟨rfl, B3⟩
  have hs3 := B3.size
  have HCA := Lib.hid (Kd.C_below CA2 B3)
  have HCB := Lib.hid (Kd.C_below CB B3)
  have HB3 := Lib.hid ((BA.trans (BB.mono (by omega))).trans (B3.mono (by omega)))
  rw [hsA] at HCB
  clear CA CA2 CB BA BB B3
  go_upto_region 5 with fail
  obtain ⟨sp, hsp⟩ : ∃ sp, space % 3 = sp := ⟨_, rfl⟩
  have hsp2 : 0 ≤ sp ∧ sp < 3 := by omega
  obtain ⟨n, hn⟩ : ∃ n, 1 + bytes % 4 = n := ⟨_, rfl⟩
  have hn14 : 1 ≤ n ∧ n ≤ 4 := by omega
  have hsw : wrap64 sp = sp := by unfold wrap64; omega
  have hsw2 : IntKind.i64.wrap sp = sp := by rw [IntKind.wrap_i64]; omega
  go_cut [15] from 25 (fun v wx => ∃ hb : Nat, v = .pointer (some ⟨hb, 0, none⟩) ∧ Hid (wx.heap[hb]? = some (.cells #[.int .i64 sp, .slice (some ⟨w.heap.size, 0, none⟩) 8 8, .slice (some ⟨w.heap.size + 1, 0, none⟩) 8 8] 32 (0, 0))) ∧ Hid (Below w3.heap.size w3 wx) ∧ w3.heap.size ≤ hb)
  case first =>
    go_region
    go_wp2_with fail
    go_meet
    case rel => exact ⟨w3.heap.size, rfl, Lib.hid (blk_drew (heap_alloc_new _ _)), Lib.hid (((Below.refl w3.heap.size w3).alloc (Nat.le_refl _) _).drew), Nat.le_refl _⟩
  case rest =>
    obtain ⟨hb, rfl, HK4, HB4, hhb⟩ := hcut
    have hblt : hb < wc.heap.size := blk_lt HK4.out
    obtain ⟨k0, k1, k2, f0, f1, f2⟩ := box3 HK4.out
    obtain ⟨bb, hput, hbx, hbl1, hbl2, htake⟩ := head_all sp pn n size [a0, a1, a2, a3, a4, a5, a6, a7] [b0, b1, b2, b3, b4, b5, b6, b7] hsp2.1 hsp2.2 rfl rfl HA.out HB.out hn14.1 hn14.2 hz0 (by omega)
    have PC : Calls Try.prog 23 #[.agg #[.int .i64 sp, .slice (some ⟨w.heap.size, 0, none⟩) 8 8, .slice (some ⟨w.heap.size + 1, 0, none⟩) 8 8], .int .u64 pn, .int .i64 n, .int .i64 size] wc fun e w' => ∃ v0_ : Value, e = .returned (.tuple #[v0_, .int .i64 0]) ∧ RB w' wc.heap.size v0_ bb ∧ Below wc.heap.size wc w' :=
      PHeadBack.head_Put.calls 10 sp (some ⟨w.heap.size, 0, none⟩) 8 [a0, a1, a2, a3, a4, a5, a6, a7] (some ⟨w.heap.size + 1, 0, none⟩) 8 [b0, b1, b2, b3, b4, b5, b6, b7] pn n size bb 0 wc (Kd.C_below HCA.out HB4.out) (Nat.le_refl _) (Kd.C_below HCB.out HB4.out) (Nat.le_refl _) hput
    have HPC := Lib.hid PC
    have HTK := Lib.hid htake
    have HBX := Lib.hid hbx
    have HW3 := Lib.hid hs3
    have HAC := Lib.hid (Kd.C_below HCA.out HB4.out)
    have HBC := Lib.hid (Kd.C_below HCB.out HB4.out)
    have HBW := Lib.hid (HB3.out.trans (HB4.out.mono (by have := HW3.out; omega)))
    have hwcs : w.heap.size ≤ wc.heap.size := HBW.out.size
    clear hput htake hbx PC hs3 HCA HCB HB3 HB4
    have hszw : IntKind.i64.wrap size = size := by rw [IntKind.wrap_i64]; omega
    have hszw' : wrap64 size = size := by unfold wrap64; omega
    have hnw : IntKind.i64.wrap (bytes % 4) = bytes % 4 := by rw [IntKind.wrap_i64]; omega
    have hnw' : wrap64 (bytes % 4) = bytes % 4 := by unfold wrap64; omega
    have hnw2 : wrap64 n = n := by unfold wrap64; omega
    have hw1 : wrap64 ((bb.length : Int) + size) = (bb.length : Int) + size := by unfold wrap64; omega
    have hw2 : wrap64 ((bb.length : Int) - n) = (bb.length : Int) - n := by unfold wrap64; omega
    go_wp2_with fail
    refine HPC.out.mono ?_
    clear HPC
    rintro e w5 ⟨v9, rfl, R9, B9⟩
    obtain ⟨A9, c9, rfl, -, -, -⟩ := RB.read R9
    have HR9 := Lib.hid R9
    have HB9 := Lib.hid B9
    clear R9 B9 k0 k1 k2 f0 f1 f2
    --TAIL
    have hwhb : w.heap.size < hb := by have := HW3.out; omega
    obtain ⟨al, hal⟩ : ∃ al, bb ++ List.replicate size.toNat 0 ++ l6 = al := ⟨_, rfl⟩
    have hall : al = bb ++ (List.replicate size.toNat 0 ++ l6) := by rw [← hal, List.append_assoc]
    have hlen : al.length = bb.length + (size.toNat + l6.length) := by rw [hall]; simp
    have htk := HTK.out (List.replicate size.toNat 0 ++ l6) (by simp; omega)
    rw [← hall] at htk
    have halx : ∀ x ∈ al, 0 ≤ x ∧ x < 256 := by
      intro x hx
      rw [hall] at hx
      rcases List.mem_append.1 hx with hx | hx
      · exact HBX.out x hx
      · rcases List.mem_append.1 hx with hx | hx
        · have := List.eq_of_mem_replicate hx; omega
        · exact HX6.out x hx
    have HHT := Lib.hid htk
    have HAX := Lib.hid halx
    have hlenb : al.length ≤ 1400 := by omega
    have HHAL := Lib.hid hall
    have HHLEN := Lib.hid hlen
    clear htk halx hall HTK HBX hlen
    by_cases h2 : sp = 2
    · subst h2
      go_wp2_with (first
        | ((with_reducible refine gate_builtin (b := .append) (xs := #[.tmp 54, .tmp 55]) rfl ?_); refine Kd.R_append_zeros (Kd.int .u8) (w0 := wc) wc.heap.size rfl (.tmp 54) (.tmp 55) 30 5 5 (.int .u8 0) 1 rfl Try.underlying30 (k := .u8) Try.underlying5 info8 rfl (by decide) (by decide) _ bb (0 : Int) (kx := .u8) size (fun _ => True) rfl rfl rfl (fun _ _ => trivial) HR9.out hz0 HB9.out HB9.out.size (by omega) ?_; intro v1 w6 R6 B6 G6 N6; clear G6 N6)
        | ((with_reducible refine gate_builtin (b := .append) (xs := #[.tmp 56, .tmp 57]) rfl ?_); refine appB (w0 := wc) wc.heap.size rfl (.tmp 56) (.tmp 57) rfl (A := A6) (ys := l6) R6 rfl rfl rfl (Kd.C_below HC6.out (HBW.out.trans (B6.mono hwcs))) B6 B6.size (by simp; omega) ?_; intro v2 w7 R7 B7 G7 N7; clear G7 N7 R6 B6; have hk7 := (B7.block hb hblt).trans HK4.out; obtain ⟨k0, k1, k2, f0, f1, f2⟩ := box3 hk7; have HK7 := Lib.hid hk7; rw [hal] at R7; obtain ⟨A7, c7, rfl, hc7, -, -⟩ := R7.read; have HR7 := Lib.hid R7; have HB7 := Lib.hid B7; clear R7 B7 hk7))
      clear k0 k1 k2 f0 f1 f2
      have KK := (Kp.refl hb w7).set 2 (.slice none 0 0)
      have hk8 := blk_set HK7.out 2 (.slice none 0 0)
      have R8 := KK.R HR7.out hblt
      have B8 := KK.below (HBW.out.trans (HB7.out.mono hwcs)) (by have := HB7.out.size; omega) (by omega)
      have CA8 := C_keep KK (Kd.C_below HAC.out HB7.out) (fun a ha hn => by injection ha with ha; subst ha; show w.heap.size ≠ hb; omega)
      obtain ⟨w8, hw8⟩ : ∃ w8 : World, w8 = w7.setCell ⟨hb, 2, none⟩ (.slice none 0 0) := ⟨_, rfl⟩
      rw [← hw8] at hk8 R8 B8 CA8 KK ⊢
      clear hw8 KK
      obtain ⟨A7', c7', e7, -, hC8, -⟩ := RB.read R8
      have hA7 : A7 = A7' := by injection e7
      subst hA7
      have HEQ : takeR al = ⟨2, [a0, a1, a2, a3, a4, a5, a6, a7], [], (bb.length : Int) - n, (al.length : Int), 0⟩ := by
        rw [HHT.out]
        simp [HHAL.out]
      have TC := take_calls (w := w8) (A := A7) (c := c7) (b := al) hC8 hc7 HAX.out (by omega)
      rw [HEQ] at TC
      simp only [] at TC
      have HTC := Lib.hid TC
      have HK8 := Lib.hid hk8
      have HB8 := Lib.hid B8
      have HCA8 := Lib.hid CA8
      clear TC hk8 R8 B8 CA8 e7 hC8 HEQ
      refine HTC.out.mono ?_
      clear HTC
      rintro e w9 ⟨u1, u2, rfl, R1, R2, B9⟩
      obtain ⟨A1, n1, rfl, hn1, hC1, -⟩ := R1.read
      obtain ⟨A2, n2, rfl, hn2, hC2, -⟩ := R2.read
      have hk9 := blk_below HK8.out B9
      obtain ⟨k0, k1, k2, f0, f1, f2⟩ := box3 hk9
      have hblt9 : hb < w9.heap.size := blk_lt hk9
      have hbne : hb ≠ w9.heap.size := by omega
      have HB9' := Lib.hid (HB8.out.trans (B9.mono HB8.out.size))
      have SM : ∀ W, Below w9.heap.size w9 W → Calls Try.prog 43 #[.agg #[.int .i64 2, .slice A1 8 n1, .slice A2 0 n2], .agg #[.int .i64 2, .slice (some ⟨w.heap.size, 0, none⟩) 8 8, .slice none 0 0]] W fun e w' => e = .returned (.bool true) ∧ Below W.heap.size W w' := fun W hW =>
        PHeadBack.skifflaw12_same.calls 2 A1 n1 [a0, a1, a2, a3, a4, a5, a6, a7] A2 n2 [] 2 (some ⟨w.heap.size, 0, none⟩) 8 [a0, a1, a2, a3, a4, a5, a6, a7] none 0 [] true W (Kd.C_below hC1 hW) hn1 (Kd.C_below hC2 hW) hn2 (Kd.C_below (Kd.C_below HCA8.out B9) hW) (Nat.le_refl _) (Kd.C_nil _ _) (Nat.le_refl _) (by simp [PHeadBack.skifflaw12_same.f])
      have HSM := Lib.hid SM
      clear R1 R2 B9 hC1 hC2 SM hk9
      go_wp2_with fail
      have BL := (Below.refl w9.heap.size w9).alloc (Nat.le_refl _) (.cells #[.int .i64 2, .slice A1 8 n1, .slice A2 0 n2] 32)
      refine (HSM.out _ BL).mono ?_
      rintro e w10 ⟨rfl, B10⟩
      have HBE := Lib.hid ((HB9'.out.trans (BL.mono HB9'.out.size)).trans (B10.mono (Nat.le_trans HB9'.out.size BL.size)))
      clear BL B10
      go_wp2_with fail
      go_ret
      exact ⟨rfl, HBE.out⟩
    · have h2b : (sp == 2) = false := by simp [h2]
      go_wp2_with (first
        | ((with_reducible refine gate_builtin (b := .append) (xs := #[.tmp 54, .tmp 55]) rfl ?_); refine Kd.R_append_zeros (Kd.int .u8) (w0 := wc) wc.heap.size rfl (.tmp 54) (.tmp 55) 30 5 5 (.int .u8 0) 1 rfl Try.underlying30 (k := .u8) Try.underlying5 info8 rfl (by decide) (by decide) _ bb (0 : Int) (kx := .u8) size (fun _ => True) rfl rfl rfl (fun _ _ => trivial) HR9.out hz0 HB9.out HB9.out.size (by omega) ?_; intro v1 w6 R6 B6 G6 N6; clear G6 N6)
        | ((with_reducible refine gate_builtin (b := .append) (xs := #[.tmp 56, .tmp 57]) rfl ?_); refine appB (w0 := wc) wc.heap.size rfl (.tmp 56) (.tmp 57) rfl (A := A6) (ys := l6) R6 rfl rfl rfl (Kd.C_below HC6.out (HBW.out.trans (B6.mono hwcs))) B6 B6.size (by simp; omega) ?_; intro v2 w7 R7 B7 G7 N7; clear G7 N7 R6 B6; have hk7 := (B7.block hb hblt).trans HK4.out; obtain ⟨k0, k1, k2, f0, f1, f2⟩ := box3 hk7; have HK7 := Lib.hid hk7; rw [hal] at R7; obtain ⟨A7, c7, rfl, hc7, -, -⟩ := R7.read; have HR7 := Lib.hid R7; have HB7 := Lib.hid B7; clear R7 B7 hk7))
      clear k0 k1 k2 f0 f1 f2
      have hk8 := HK7.out
      have R8 := HR7.out
      have B8 := HBW.out.trans (HB7.out.mono hwcs)
      have CA8 := Kd.C_below HAC.out HB7.out
      have CB8 := Kd.C_below HBC.out HB7.out
      obtain ⟨w8, hw8⟩ : ∃ w8 : World, w8 = w7 := ⟨_, rfl⟩
      rw [← hw8] at hk8 R8 B8 CA8 CB8 ⊢
      clear hw8
      obtain ⟨A7', c7', e7, -, hC8, -⟩ := RB.read R8
      have hA7 : A7 = A7' := by injection e7
      subst hA7
      have HEQ : takeR al = ⟨sp, [a0, a1, a2, a3, a4, a5, a6, a7], [b0, b1, b2, b3, b4, b5, b6, b7], (bb.length : Int) - n, ((bb.length : Int) + size), 0⟩ := by
        rw [HHT.out]
        rw [if_neg h2, if_neg h2]
      have TC := take_calls (w := w8) (A := A7) (c := c7) (b := al) hC8 hc7 HAX.out (by omega)
      rw [HEQ] at TC
      simp only [] at TC
      have HTC := Lib.hid TC
      have HK8 := Lib.hid hk8
      have HB8 := Lib.hid B8
      have HCA8 := Lib.hid CA8
      have HCB8 := Lib.hid CB8
      clear CB8
      clear TC hk8 R8 B8 CA8 e7 hC8 HEQ
      refine HTC.out.mono ?_
      clear HTC
      rintro e w9 ⟨u1, u2, rfl, R1, R2, B9⟩
      obtain ⟨A1, n1, rfl, hn1, hC1, -⟩ := R1.read
      obtain ⟨A2, n2, rfl, hn2, hC2, -⟩ := R2.read
      have hk9 := blk_below HK8.out B9
      obtain ⟨k0, k1, k2, f0, f1, f2⟩ := box3 hk9
      have hblt9 : hb < w9.heap.size := blk_lt hk9
      have hbne : hb ≠ w9.heap.size := by omega
      have HB9' := Lib.hid (HB8.out.trans (B9.mono HB8.out.size))
      have SM : ∀ W, Below w9.heap.size w9 W → Calls Try.prog 43 #[.agg #[.int .i64 sp, .slice A1 8 n1, .slice A2 8 n2], .agg #[.int .i64 sp, .slice (some ⟨w.heap.size, 0, none⟩) 8 8, .slice (some ⟨w.heap.size + 1, 0, none⟩) 8 8]] W fun e w' => e = .returned (.bool true) ∧ Below W.heap.size W w' := fun W hW =>
        PHeadBack.skifflaw12_same.calls sp A1 n1 [a0, a1, a2, a3, a4, a5, a6, a7] A2 n2 [b0, b1, b2, b3, b4, b5, b6, b7] sp (some ⟨w.heap.size, 0, none⟩) 8 [a0, a1, a2, a3, a4, a5, a6, a7] (some ⟨w.heap.size + 1, 0, none⟩) 8 [b0, b1, b2, b3, b4, b5, b6, b7] true W (Kd.C_below hC1 hW) hn1 (Kd.C_below hC2 hW) hn2 (Kd.C_below (Kd.C_below HCA8.out B9) hW) (Nat.le_refl _) (Kd.C_below (Kd.C_below HCB8.out B9) hW) (Nat.le_refl _) (by simp [PHeadBack.skifflaw12_same.f])
      have HSM := Lib.hid SM
      clear R1 R2 B9 hC1 hC2 SM hk9
      go_wp2_with fail
      have BL := (Below.refl w9.heap.size w9).alloc (Nat.le_refl _) (.cells #[.int .i64 sp, .slice A1 8 n1, .slice A2 8 n2] 32)
      refine (HSM.out _ BL).mono ?_
      rintro e w10 ⟨rfl, B10⟩
      have HBE := Lib.hid ((HB9'.out.trans (BL.mono HB9'.out.size)).trans (B10.mono (Nat.le_trans HB9'.out.size BL.size)))
      clear BL B10
      go_wp2_with fail
      go_ret
      exact ⟨rfl, HBE.out⟩

theorem law {w : World} (space pn bytes size : Int) {la lb : List Int} {A6 : Option Addr} {c6 : Nat} {l6 : List Int} (hs : (Lit.int .u8 space).wf = true) (hy : (Lit.int .u8 bytes).wf = true) (hz : (Lit.int .u8 size).wf = true) (ha : la.length = 8) (hb : lb.length = 8) (hA : ∀ x ∈ la, (Lit.int .u8 x).wf = true) (hB : ∀ x ∈ lb, (Lit.int .u8 x).wf = true)
    (hC6 : CB w A6 l6) (hc6 : l6.length ≤ c6) (hx6 : ∀ x ∈ l6, (Lit.int .u8 x).wf = true) :
    Calls Try.prog 12 #[.int .u8 space, .agg (la.map (Value.int .u8)).toArray, .agg (lb.map (Value.int .u8)).toArray, .int .u64 pn, .int .u8 bytes, .int .u8 size, .slice A6 l6.length c6] w fun e w' => e = .returned (.bool true) ∧ Below w.heap.size w w' := by
  have W : ∀ x : Int, (Lit.int .u8 x).wf = true → 0 ≤ x ∧ x < 256 := by
    intro x h
    simp [Lit.wf, IntKind.min, IntKind.max, IntKind.bits, IntKind.signed] at h
    omega
  obtain ⟨a0, a1, a2, a3, a4, a5, a6, a7, rfl⟩ := eight ha
  obtain ⟨b0, b1, b2, b3, b4, b5, b6, b7, rfl⟩ := eight hb
  by_cases hl : l6.length ≤ 1000
  · exact walk space pn bytes size a0 a1 a2 a3 a4 a5 a6 a7 b0 b1 b2 b3 b4 b5 b6 b7 (W _ hs).1 (W _ hs).2 (W _ hy).1 (W _ hy).2 (W _ hz).1 (W _ hz).2 (fun x hx => W x (hA x hx)) (fun x hx => W x (hB x hx)) hC6 hc6 (fun x hx => W x (hx6 x hx)) hl
  · have hgt : 1000 < l6.length := by omega
    clear hl hA hB
    have B1 := (Below.refl w.heap.size w).alloc (Nat.le_refl _) (.cells #[.int .u8 a0, .int .u8 a1, .int .u8 a2, .int .u8 a3, .int .u8 a4, .int .u8 a5, .int .u8 a6, .int .u8 a7] 65)
    have B2 := B1.alloc B1.size (.cells #[.int .u8 b0, .int .u8 b1, .int .u8 b2, .int .u8 b3, .int .u8 b4, .int .u8 b5, .int .u8 b6, .int .u8 b7] 65)
    have HB2 := Lib.hid B2
    clear B1 B2
    go_enter Try.func12, Try.ntmps12
    go_wp2_with fail
    refine (awake _).mono ?_
    rintro e w1 ⟨rfl, B3⟩
    have HB3 := Lib.hid (HB2.out.trans (B3.mono HB2.out.size))
    clear B3
    go_wp2_with fail
    go_ret
    exact ⟨rfl, HB3.out⟩
end Go.Proofs.Ytmccghadgihbpaa.HeadBackWalk
