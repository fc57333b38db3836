/- The walk of the law VarintBack: what is put is read, and nothing is left; in as few bytes as may be; cut it is short. -/
import Derived.Test.YtmccghadgihbpaaAwake10
import Derived.Test.YtmccghadgihbpaaVPlain
import Derived.Test.YtmccghadgihbpaaFlow
import Derived.Deep.RegionWith
import Derived.Outline
namespace Go.Proofs.Ytmccghadgihbpaa.VarintBackWalk
open Go Go.RowKit Go.Proofs.YtmccghadgihbpaaW.PrintWords Go.Proofs.YtmccghadgihbpaaW.PrintLast Go.Proofs.YtmccghadgihbpaaW.PrintMore Go.Proofs.Ytmccghadgihbpaa.Keep Go.Proofs.Ytmccghadgihbpaa.Mem Go.Proofs.Ytmccghadgihbpaa.Reader Go.Proofs.Ytmccghadgihbpaa.VPut Go.Proofs.Ytmccghadgihbpaa.VPlain
set_option linter.unusedVariables false

theorem len_cls (n : Int) : (n < 64 → (vbytes n).length = 1) ∧ (64 ≤ n ∧ n < 16384 → (vbytes n).length = 2) ∧ (16384 ≤ n ∧ n < 1073741824 → (vbytes n).length = 4) ∧ (1073741824 ≤ n → (vbytes n).length = 8) := by
  unfold vbytes
  refine ⟨fun h => ?_, fun h => ?_, fun h => ?_, fun h => ?_⟩ <;> (repeat' split) <;> first | rfl | omega

theorem rd_at {l : List Int} {k : Nat} (h : k < l.length) : rd l (k : Int) = l[k] := by unfold rd; simp [List.getD_eq_getElem?_getD, List.getElem?_eq_getElem h]

set_option maxHeartbeats 4000000 in
set_option maxRecDepth 100000 in
theorem small {w : World} {A0 : Option Addr} {c0 : Nat} {l : List Int} (cut : Int) (hu0 : 0 ≤ cut) (hu1 : cut < 256) (hr0 : CU w A0 l) (hc0 : l.length ≤ c0) (hw : ∀ n ∈ l, 0 ≤ n ∧ n < 18446744073709551616) (hl : l.length ≤ 100) :
    Calls Try.prog 9 #[.slice A0 l.length c0, .int .u8 cut] w fun e w' => e = .returned (.bool true) ∧ Below w.heap.size w w' := by
  have HR0 := Lib.hid hr0
  have HW := Lib.hid hw
  clear hr0 hw
  go_enter Try.func9, Try.ntmps9
  go_wp2_with fail
  refine (Awake10.awake _).mono ?_
  rintro e w1 ⟨rfl, B1⟩
  have HB1 := Lib.hid B1
  clear B1
  go_wp2_with fail
  go_loopw [5, 23] (fun v i wr => ∃ k : Nat, k ≤ l.length ∧ i = .int .i64 k ∧ Hid (RU wr w.heap.size v ((l.take k).map (· % 4611686018427387904))) ∧ Hid (Below w.heap.size w wr)) (fun _ i _ => l.length - (intOf i).toNat)
  case atStart => exact ⟨0, Nat.zero_le _, rfl, Lib.hid (Kd.R_nil _ _ _ _ _), HB1⟩
  case round =>
    clear HB1
    obtain ⟨k, hk, rfl, HR, HB⟩ := hrel
    by_cases hlt : k < l.length
    · obtain ⟨ad, rfl, hcell⟩ := Kd.at_int (Kd.C_below HR0.out HB.out) (k : Int) (Int.natCast_nonneg _) (by omega)
      rw [rd_at hlt, Int.toNat_natCast] at hcell
      have hn := HW.out l[k] (List.getElem_mem hlt)
      have ets : Hid ((l.take (k + 1)).map (· % 4611686018427387904) = (l.take k).map (· % 4611686018427387904) ++ [l[k] % 4611686018427387904]) := by
        show (l.take (k + 1)).map (· % 4611686018427387904) = _
        rw [List.take_succ_eq_append_getElem hlt, List.map_append]; rfl
      obtain ⟨n0, n1⟩ := hn
      generalize l[k] = n at *
      go_wp2_with (first
        | ((with_reducible refine gate_builtin (b := .append) (xs := #[.tmp 27, .tmp 30]) rfl ?_); refine app1U (w0 := w) w.heap.size rfl _ _ rfl (p := n % 4611686018427387904) HR.out rfl rfl HB.out HB.out.size (by simp; omega) ?_; intro v3 w3 R3 B3 G3 N3; clear G3 N3 HR HB; have R3 := Lib.hid R3; have B3 := Lib.hid B3))
      go_roundw
      case rel => exact ⟨k + 1, by omega, by go_num, Lib.hid (by rw [ets.out]; exact R3.out), B3⟩
      case measure => simp [intOf]; omega
    · have hke : k = l.length := by omega
      subst hke
      clear hlt hk
      have hall : ∀ n ∈ l.map (· % 4611686018427387904), 0 ≤ n ∧ n < 4611686018427387904 := by
        intro n hn
        obtain ⟨m, hm, rfl⟩ := List.mem_map.1 hn
        have := (HW.out m hm).1
        omega
      have hlen : (l.map (· % 4611686018427387904)).length ≤ 100 := by simpa using hl
      have hr := HR.out
      rw [List.take_length] at hr
      clear HR HW
      generalize l.map (· % 4611686018427387904) = all at *
      obtain ⟨A5, c5, rfl, hc5, hC5, hA5⟩ := hr.read
      have HA := Lib.hid hall
      have HC5 := Lib.hid hC5
      have hv : vputR [] all = (flat all, 0) := by unfold vputR; rw [vput_flat all [] hall]; rfl
      have P := put_calls (w := wr) (A0 := none) (c0 := 0) (b := []) (A1 := A5) (c1 := c5) (l := all) (Kd.C_nil _ _) (Nat.le_refl _) hC5 hc5 (fun n hn => by have := hall n hn; omega) (by simp; omega)
      rw [hv] at P
      have HP := Lib.hid P
      have hfit := flat_fit all hall
      have hfl := flat_len all
      have HF := Lib.hid hfit
      clear hall hr hC5 hA5 P hv hfit
      go_wp2_with fail
      refine HP.out.mono ?_
      clear HP
      rintro e w2 ⟨v8, rfl, R8, B8⟩
      obtain ⟨A8, c8, rfl, hc8, hC8, hA8⟩ := R8.read
      have HC5 := Lib.hid (Kd.C_below HC5.out B8)
      have HC8 := Lib.hid hC8
      have HB2 := Lib.hid (HB.out.trans (B8.mono HB.out.size))
      clear R8 B8 hC8 hA8 HB
      go_wp2_with fail
      refine (new_calls HC8.out hc8 HF.out (by omega)).mono ?_
      rintro e w3 ⟨p, d, rfl, D3, B3, hp, hd⟩
      have HD3 := Lib.hid D3
      have HB3 := Lib.hid B3
      clear D3 B3
      go_wp2_with fail
      go_loopw [11, 42] (fun sz i wr => ∃ j : Nat, j ≤ all.length ∧ i = .int .i64 j ∧ sz = .int .i64 ((flat (all.take j)).length : Int) ∧ Hid (Rdr wr p d 0 (flat (all.drop j))) ∧ Hid (Below w2.heap.size w2 wr)) (fun _ i _ => all.length - (intOf i).toNat)
      case atStart => exact ⟨0, Nat.zero_le _, rfl, rfl, HD3, HB3⟩
      case round =>
        clear HD3 HB3
        obtain ⟨j, hj, rfl, rfl, HD, HB4⟩ := hrel
        by_cases hlt : j < all.length
        · obtain ⟨ad, rfl, hcell⟩ := Kd.at_int (Kd.C_below HC5.out HB4.out) (j : Int) (Int.natCast_nonneg _) (by omega)
          rw [rd_at hlt, Int.toNat_natCast] at hcell
          have hn := HA.out all[j] (List.getElem_mem hlt)
          have hsz : (flat (all.take (j + 1))).length = (flat (all.take j)).length + (vbytes all[j]).length := by
            rw [List.take_succ_eq_append_getElem hlt, flat_append, List.length_append]
            simp [flat]
          have hszle := flat_len (all.take j)
          have hszlt : (all.take j).length ≤ 100 := by simp; omega
          have hdr : flat (all.drop j) = vbytes all[j] ++ flat (all.drop (j + 1)) := by rw [List.drop_eq_getElem_cons hlt]; rfl
          have hd2 := HD.out
          rw [hdr] at hd2
          have HD2 := Lib.hid hd2
          have hl2 : (vbytes all[j] ++ flat (all.drop (j + 1))).length ≤ 1000 := by
            have h5 := flat_len (all.drop (j + 1))
            have h6 := vbytes_length all[j]
            rw [List.length_drop] at h5
            rw [List.length_append]; omega
          have lc := len_cls all[j]
          obtain ⟨n0, n1⟩ := hn
          clear hdr HD hd2
          generalize all[j] = n at *
          generalize (flat (all.take j)).length = s at *
          have HSZ := Lib.hid hsz
          have hs0 : (0 : Int) ≤ s := Int.natCast_nonneg _
          have hs1 : (s : Int) ≤ 800 := by omega
          have HLC := Lib.hid lc
          clear hsz lc
          rcases (by omega : n < 64 ∨ (64 ≤ n ∧ n < 16384) ∨ (16384 ≤ n ∧ n < 1073741824) ∨ 1073741824 ≤ n) with hcl | hcl | hcl | hcl
          · have hvl : (vbytes n).length = 1 := HLC.out.1 hcl
            have HVL := Lib.hid hvl
            
            clear hvl
            go_wp2_with fail
            have hblk := heap_alloc_new wr (.cells #[.int .u64 64, .int .u64 16384, .int .u64 16384, .int .u64 1073741824, .int .u64 1073741824, .int .u64 1073741824, .int .u64 1073741824] 22)
            have HBK := Lib.hid hblk
            have HBA := Lib.hid ((Below.refl wr.heap.size wr).alloc (Nat.le_refl _) (.cells #[.int .u64 64, .int .u64 16384, .int .u64 16384, .int .u64 1073741824, .int .u64 1073741824, .int .u64 1073741824, .int .u64 1073741824] 22))
            clear hblk hcell
            obtain ⟨wo, hwo⟩ : ∃ wo : World, wo = wr.alloc (.cells #[.int .u64 64, .int .u64 16384, .int .u64 16384, .int .u64 1073741824, .int .u64 1073741824, .int .u64 1073741824, .int .u64 1073741824] 22) := ⟨_, rfl⟩
            rw [← hwo] at HBK HBA ⊢
            clear hwo
            go_loop [11, 50] (fun sz i => ∃ m : Nat, m ≤ 7 ∧ i = .int .i64 m ∧ sz = .int .i64 ((s : Int) + 1 + (if m ≤ 0 then (m : Int) else 0))) (fun _ i => 7 - (intOf i).toNat)
            case atStart => exact ⟨0, by omega, rfl, by go_num⟩
            case round =>
              obtain ⟨m, hm, rfl, rfl⟩ := hrel
              rcases (by omega : m = 0 ∨ m = 1 ∨ m = 2 ∨ m = 3 ∨ m = 4 ∨ m = 5 ∨ m = 6 ∨ m = 7) with rfl | rfl | rfl | rfl | rfl | rfl | rfl | rfl
              · have hce := blk_cell HBK.out 0
                go_wp2_with fail
                go_round
                case rel => exact ⟨0 + 1, by omega, by go_num, by go_num⟩
                case measure => simp [intOf]
              · have hce := blk_cell HBK.out 1
                go_wp2_with fail
                go_round
                case rel => exact ⟨1 + 1, by omega, by go_num, by go_num⟩
                case measure => simp [intOf]
              · have hce := blk_cell HBK.out 2
                go_wp2_with fail
                go_round
                case rel => exact ⟨2 + 1, by omega, by go_num, by go_num⟩
                case measure => simp [intOf]
              · have hce := blk_cell HBK.out 3
                go_wp2_with fail
                go_round
                case rel => exact ⟨3 + 1, by omega, by go_num, by go_num⟩
                case measure => simp [intOf]
              · have hce := blk_cell HBK.out 4
                go_wp2_with fail
                go_round
                case rel => exact ⟨4 + 1, by omega, by go_num, by go_num⟩
                case measure => simp [intOf]
              · have hce := blk_cell HBK.out 5
                go_wp2_with fail
                go_round
                case rel => exact ⟨5 + 1, by omega, by go_num, by go_num⟩
                case measure => simp [intOf]
              · have hce := blk_cell HBK.out 6
                go_wp2_with fail
                go_round
                case rel => exact ⟨6 + 1, by omega, by go_num, by go_num⟩
                case measure => simp [intOf]
              · go_wp2_with fail
                have N := num_calls (HD2.out.below HBA.out) (by omega)
                rw [rNum_vbytes n _ n0 n1] at N
                have HNN := Lib.hid N
                clear N
                refine HNN.out.mono ?_
                clear HNN
                rintro e w5 ⟨rfl, D5, K5⟩
                have HD5 := Lib.hid D5
                have HB5 := Lib.hid (K5.below (HB4.out.trans (HBA.out.mono HB4.out.size)) (Nat.le_trans HB4.out.size HBA.out.size) hp)
                clear D5 K5
                go_wp2_with fail
                go_roundw
                case rel => exact ⟨j + 1, by omega, by go_num, by rw [HSZ.out, HVL.out]; go_num, HD5, HB5⟩
                case measure => simp [intOf]; omega
          · have hvl : (vbytes n).length = 2 := HLC.out.2.1 hcl
            have HVL := Lib.hid hvl
            obtain ⟨hcl, hcl2⟩ := hcl
            clear hvl
            go_wp2_with fail
            have hblk := heap_alloc_new wr (.cells #[.int .u64 64, .int .u64 16384, .int .u64 16384, .int .u64 1073741824, .int .u64 1073741824, .int .u64 1073741824, .int .u64 1073741824] 22)
            have HBK := Lib.hid hblk
            have HBA := Lib.hid ((Below.refl wr.heap.size wr).alloc (Nat.le_refl _) (.cells #[.int .u64 64, .int .u64 16384, .int .u64 16384, .int .u64 1073741824, .int .u64 1073741824, .int .u64 1073741824, .int .u64 1073741824] 22))
            clear hblk hcell
            obtain ⟨wo, hwo⟩ : ∃ wo : World, wo = wr.alloc (.cells #[.int .u64 64, .int .u64 16384, .int .u64 16384, .int .u64 1073741824, .int .u64 1073741824, .int .u64 1073741824, .int .u64 1073741824] 22) := ⟨_, rfl⟩
            rw [← hwo] at HBK HBA ⊢
            clear hwo
            go_loop [11, 50] (fun sz i => ∃ m : Nat, m ≤ 7 ∧ i = .int .i64 m ∧ sz = .int .i64 ((s : Int) + 1 + (if m ≤ 1 then (m : Int) else 1))) (fun _ i => 7 - (intOf i).toNat)
            case atStart => exact ⟨0, by omega, rfl, by go_num⟩
            case round =>
              obtain ⟨m, hm, rfl, rfl⟩ := hrel
              rcases (by omega : m = 0 ∨ m = 1 ∨ m = 2 ∨ m = 3 ∨ m = 4 ∨ m = 5 ∨ m = 6 ∨ m = 7) with rfl | rfl | rfl | rfl | rfl | rfl | rfl | rfl
              · have hce := blk_cell HBK.out 0
                go_wp2_with fail
                go_round
                case rel => exact ⟨0 + 1, by omega, by go_num, by go_num⟩
                case measure => simp [intOf]
              · have hce := blk_cell HBK.out 1
                go_wp2_with fail
                go_round
                case rel => exact ⟨1 + 1, by omega, by go_num, by go_num⟩
                case measure => simp [intOf]
              · have hce := blk_cell HBK.out 2
                go_wp2_with fail
                go_round
                case rel => exact ⟨2 + 1, by omega, by go_num, by go_num⟩
                case measure => simp [intOf]
              · have hce := blk_cell HBK.out 3
                go_wp2_with fail
                go_round
                case rel => exact ⟨3 + 1, by omega, by go_num, by go_num⟩
                case measure => simp [intOf]
              · have hce := blk_cell HBK.out 4
                go_wp2_with fail
                go_round
                case rel => exact ⟨4 + 1, by omega, by go_num, by go_num⟩
                case measure => simp [intOf]
              · have hce := blk_cell HBK.out 5
                go_wp2_with fail
                go_round
                case rel => exact ⟨5 + 1, by omega, by go_num, by go_num⟩
                case measure => simp [intOf]
              · have hce := blk_cell HBK.out 6
                go_wp2_with fail
                go_round
                case rel => exact ⟨6 + 1, by omega, by go_num, by go_num⟩
                case measure => simp [intOf]
              · go_wp2_with fail
                have N := num_calls (HD2.out.below HBA.out) (by omega)
                rw [rNum_vbytes n _ n0 n1] at N
                have HNN := Lib.hid N
                clear N
                refine HNN.out.mono ?_
                clear HNN
                rintro e w5 ⟨rfl, D5, K5⟩
                have HD5 := Lib.hid D5
                have HB5 := Lib.hid (K5.below (HB4.out.trans (HBA.out.mono HB4.out.size)) (Nat.le_trans HB4.out.size HBA.out.size) hp)
                clear D5 K5
                go_wp2_with fail
                go_roundw
                case rel => exact ⟨j + 1, by omega, by go_num, by rw [HSZ.out, HVL.out]; go_num, HD5, HB5⟩
                case measure => simp [intOf]; omega
          · have hvl : (vbytes n).length = 4 := HLC.out.2.2.1 hcl
            have HVL := Lib.hid hvl
            obtain ⟨hcl, hcl2⟩ := hcl
            clear hvl
            go_wp2_with fail
            have hblk := heap_alloc_new wr (.cells #[.int .u64 64, .int .u64 16384, .int .u64 16384, .int .u64 1073741824, .int .u64 1073741824, .int .u64 1073741824, .int .u64 1073741824] 22)
            have HBK := Lib.hid hblk
            have HBA := Lib.hid ((Below.refl wr.heap.size wr).alloc (Nat.le_refl _) (.cells #[.int .u64 64, .int .u64 16384, .int .u64 16384, .int .u64 1073741824, .int .u64 1073741824, .int .u64 1073741824, .int .u64 1073741824] 22))
            clear hblk hcell
            obtain ⟨wo, hwo⟩ : ∃ wo : World, wo = wr.alloc (.cells #[.int .u64 64, .int .u64 16384, .int .u64 16384, .int .u64 1073741824, .int .u64 1073741824, .int .u64 1073741824, .int .u64 1073741824] 22) := ⟨_, rfl⟩
            rw [← hwo] at HBK HBA ⊢
            clear hwo
            go_loop [11, 50] (fun sz i => ∃ m : Nat, m ≤ 7 ∧ i = .int .i64 m ∧ sz = .int .i64 ((s : Int) + 1 + (if m ≤ 3 then (m : Int) else 3))) (fun _ i => 7 - (intOf i).toNat)
            case atStart => exact ⟨0, by omega, rfl, by go_num⟩
            case round =>
              obtain ⟨m, hm, rfl, rfl⟩ := hrel
              rcases (by omega : m = 0 ∨ m = 1 ∨ m = 2 ∨ m = 3 ∨ m = 4 ∨ m = 5 ∨ m = 6 ∨ m = 7) with rfl | rfl | rfl | rfl | rfl | rfl | rfl | rfl
              · have hce := blk_cell HBK.out 0
                go_wp2_with fail
                go_round
                case rel => exact ⟨0 + 1, by omega, by go_num, by go_num⟩
                case measure => simp [intOf]
              · have hce := blk_cell HBK.out 1
                go_wp2_with fail
                go_round
                case rel => exact ⟨1 + 1, by omega, by go_num, by go_num⟩
                case measure => simp [intOf]
              · have hce := blk_cell HBK.out 2
                go_wp2_with fail
                go_round
                case rel => exact ⟨2 + 1, by omega, by go_num, by go_num⟩
                case measure => simp [intOf]
              · have hce := blk_cell HBK.out 3
                go_wp2_with fail
                go_round
                case rel => exact ⟨3 + 1, by omega, by go_num, by go_num⟩
                case measure => simp [intOf]
              · have hce := blk_cell HBK.out 4
                go_wp2_with fail
                go_round
                case rel => exact ⟨4 + 1, by omega, by go_num, by go_num⟩
                case measure => simp [intOf]
              · have hce := blk_cell HBK.out 5
                go_wp2_with fail
                go_round
                case rel => exact ⟨5 + 1, by omega, by go_num, by go_num⟩
                case measure => simp [intOf]
              · have hce := blk_cell HBK.out 6
                go_wp2_with fail
                go_round
                case rel => exact ⟨6 + 1, by omega, by go_num, by go_num⟩
                case measure => simp [intOf]
              · go_wp2_with fail
                have N := num_calls (HD2.out.below HBA.out) (by omega)
                rw [rNum_vbytes n _ n0 n1] at N
                have HNN := Lib.hid N
                clear N
                refine HNN.out.mono ?_
                clear HNN
                rintro e w5 ⟨rfl, D5, K5⟩
                have HD5 := Lib.hid D5
                have HB5 := Lib.hid (K5.below (HB4.out.trans (HBA.out.mono HB4.out.size)) (Nat.le_trans HB4.out.size HBA.out.size) hp)
                clear D5 K5
                go_wp2_with fail
                go_roundw
                case rel => exact ⟨j + 1, by omega, by go_num, by rw [HSZ.out, HVL.out]; go_num, HD5, HB5⟩
                case measure => simp [intOf]; omega
          · have hvl : (vbytes n).length = 8 := HLC.out.2.2.2 hcl
            have HVL := Lib.hid hvl
            
            clear hvl
            go_wp2_with fail
            have hblk := heap_alloc_new wr (.cells #[.int .u64 64, .int .u64 16384, .int .u64 16384, .int .u64 1073741824, .int .u64 1073741824, .int .u64 1073741824, .int .u64 1073741824] 22)
            have HBK := Lib.hid hblk
            have HBA := Lib.hid ((Below.refl wr.heap.size wr).alloc (Nat.le_refl _) (.cells #[.int .u64 64, .int .u64 16384, .int .u64 16384, .int .u64 1073741824, .int .u64 1073741824, .int .u64 1073741824, .int .u64 1073741824] 22))
            clear hblk hcell
            obtain ⟨wo, hwo⟩ : ∃ wo : World, wo = wr.alloc (.cells #[.int .u64 64, .int .u64 16384, .int .u64 16384, .int .u64 1073741824, .int .u64 1073741824, .int .u64 1073741824, .int .u64 1073741824] 22) := ⟨_, rfl⟩
            rw [← hwo] at HBK HBA ⊢
            clear hwo
            go_loop [11, 50] (fun sz i => ∃ m : Nat, m ≤ 7 ∧ i = .int .i64 m ∧ sz = .int .i64 ((s : Int) + 1 + (if m ≤ 7 then (m : Int) else 7))) (fun _ i => 7 - (intOf i).toNat)
            case atStart => exact ⟨0, by omega, rfl, by go_num⟩
            case round =>
              obtain ⟨m, hm, rfl, rfl⟩ := hrel
              rcases (by omega : m = 0 ∨ m = 1 ∨ m = 2 ∨ m = 3 ∨ m = 4 ∨ m = 5 ∨ m = 6 ∨ m = 7) with rfl | rfl | rfl | rfl | rfl | rfl | rfl | rfl
              · have hce := blk_cell HBK.out 0
                go_wp2_with fail
                go_round
                case rel => exact ⟨0 + 1, by omega, by go_num, by go_num⟩
                case measure => simp [intOf]
              · have hce := blk_cell HBK.out 1
                go_wp2_with fail
                go_round
                case rel => exact ⟨1 + 1, by omega, by go_num, by go_num⟩
                case measure => simp [intOf]
              · have hce := blk_cell HBK.out 2
                go_wp2_with fail
                go_round
                case rel => exact ⟨2 + 1, by omega, by go_num, by go_num⟩
                case measure => simp [intOf]
              · have hce := blk_cell HBK.out 3
                go_wp2_with fail
                go_round
                case rel => exact ⟨3 + 1, by omega, by go_num, by go_num⟩
                case measure => simp [intOf]
              · have hce := blk_cell HBK.out 4
                go_wp2_with fail
                go_round
                case rel => exact ⟨4 + 1, by omega, by go_num, by go_num⟩
                case measure => simp [intOf]
              · have hce := blk_cell HBK.out 5
                go_wp2_with fail
                go_round
                case rel => exact ⟨5 + 1, by omega, by go_num, by go_num⟩
                case measure => simp [intOf]
              · have hce := blk_cell HBK.out 6
                go_wp2_with fail
                go_round
                case rel => exact ⟨6 + 1, by omega, by go_num, by go_num⟩
                case measure => simp [intOf]
              · go_wp2_with fail
                have N := num_calls (HD2.out.below HBA.out) (by omega)
                rw [rNum_vbytes n _ n0 n1] at N
                have HNN := Lib.hid N
                clear N
                refine HNN.out.mono ?_
                clear HNN
                rintro e w5 ⟨rfl, D5, K5⟩
                have HD5 := Lib.hid D5
                have HB5 := Lib.hid (K5.below (HB4.out.trans (HBA.out.mono HB4.out.size)) (Nat.le_trans HB4.out.size HBA.out.size) hp)
                clear D5 K5
                go_wp2_with fail
                go_roundw
                case rel => exact ⟨j + 1, by omega, by go_num, by rw [HSZ.out, HVL.out]; go_num, HD5, HB5⟩
                case measure => simp [intOf]; omega
        · have hje : j = all.length := by omega
          subst hje
          clear hlt hj
          have hd0 : flat (all.drop all.length) = [] := by rw [List.drop_length]; rfl
          have ht0 : flat (all.take all.length) = flat all := by rw [List.take_length]
          rw [hd0] at HD
          rw [ht0]
          clear hd0 ht0
          have EN := end_calls HD.out
          rw [if_pos rfl] at EN
          have HEN := Lib.hid EN
          clear EN
          go_wp2_with fail
          refine HEN.out.mono ?_
          clear HEN HD
          rintro e w5 ⟨rfl, K5⟩
          have HB5 := Lib.hid (K5.below HB4.out HB4.out.size hp)
          clear K5 HB4
          by_cases hz : flat all = []
          · have hz0 : ((flat all).length : Int) = 0 := by rw [hz]; rfl
            clear hz
            go_wp2_with fail
            go_ret
            exact ⟨rfl, HB2.out.trans (HB5.out.mono HB2.out.size)⟩
          · have hz1 : 1 ≤ (flat all).length := by
              cases h : flat all with
              | nil => exact absurd h hz
              | cons x r => simp
            have ha1 : 1 ≤ all.length := by
              cases h : all with
              | nil => rw [h] at hz; exact absurd rfl hz
              | cons x r => simp
            have hzb : (((flat all).length : Int) == 0) = false := by rw [beq_eq_false_iff_ne]; omega
            have em1 : ((flat all).length : Int) - 1 = (((flat all).length - 1 : Nat) : Int) := by omega
            have htk := takeB .i64 (A := A8) (c := c8) (xs := flat all) (m := (flat all).length - 1) (by omega) hc8
            rw [← em1] at htk
            have HC8' := Lib.hid (Kd.C_below HC8.out HB5.out)
            have HM1 := Lib.hid em1
            have HZ := Lib.hid hz
            clear em1 hz
            go_wp2_with fail
            have CD : CB w5 A8 (flat all).dropLast := by
              have h := Kd.C_take (m := (flat all).length - 1) HC8'.out (by omega)
              rw [← List.dropLast_eq_take] at h
              exact h
            have NC := new_calls (w := w5) (A := A8) (c := c8) (xs := (flat all).dropLast) CD (by simp; omega) (fun x hx => HF.out x (List.dropLast_subset _ hx)) (by simp; omega)
            rw [List.length_dropLast] at NC
            refine NC.mono ?_
            clear NC CD
            rintro e w6 ⟨p2, d2, rfl, D6, B6, hp2, hd2⟩
            have HB6 := Lib.hid B6
            have HD6 : Hid (if 0 < all.length then Rdr w6 p2 d2 0 (flat (all.drop 0)).dropLast else ∃ xs, Rdr w6 p2 d2 3 xs) := by
              show if 0 < all.length then Rdr w6 p2 d2 0 (flat (all.drop 0)).dropLast else ∃ xs, Rdr w6 p2 d2 3 xs
              rw [if_pos (by omega)]; exact D6
            clear D6 B6 htk
            go_wp2_with fail
            go_loopw [89] (fun i wr => ∃ j : Nat, j ≤ all.length ∧ i = .int .i64 j ∧ Hid (if j < all.length then Rdr wr p2 d2 0 (flat (all.drop j)).dropLast else ∃ xs, Rdr wr p2 d2 3 xs) ∧ Hid (Below w5.heap.size w5 wr)) (fun i _ => all.length - (intOf i).toNat)
            case atStart => exact ⟨0, Nat.zero_le _, rfl, HD6, HB6⟩
            case round =>
              clear HD6 HB6
              obtain ⟨j, hj, rfl, HD, HB7⟩ := hrel
              by_cases hlt : j < all.length
              · have hd := HD.out
                rw [if_pos hlt] at hd
                have hn := HA.out all[j] (List.getElem_mem hlt)
                have hdr : flat (all.drop j) = vbytes all[j] ++ flat (all.drop (j + 1)) := by rw [List.drop_eq_getElem_cons hlt]; rfl
                have hl2 : (flat (all.drop j)).dropLast.length ≤ 1000 := by
                  have h5 := flat_len (all.drop j)
                  rw [List.length_drop] at h5
                  rw [List.length_dropLast]; omega
                have N := num_calls hd (by omega)
                have step : ∀ W, Rdr W p2 d2 (rNum 0 (flat (all.drop j)).dropLast).2.1 (rNum 0 (flat (all.drop j)).dropLast).2.2 → (if j + 1 < all.length then Rdr W p2 d2 0 (flat (all.drop (j + 1))).dropLast else ∃ xs, Rdr W p2 d2 3 xs) := by
                  intro W hW
                  by_cases h2 : j + 1 < all.length
                  · rw [if_pos h2]
                    have hne : flat (all.drop (j + 1)) ≠ [] := by
                      rw [List.drop_eq_getElem_cons h2]
                      intro e
                      have := congrArg List.length e
                      simp only [flat, List.length_append, List.length_nil] at this
                      have lc := len_cls all[j + 1]
                      omega
                    rw [hdr, List.dropLast_append_of_ne_nil hne, rNum_vbytes _ _ hn.1 hn.2] at hW
                    exact hW
                  · rw [if_neg h2]
                    have he : all.drop (j + 1) = [] := List.drop_eq_nil_of_le (by omega)
                    rw [hdr, he] at hW
                    simp only [flat, List.append_nil] at hW
                    have lc := len_cls all[j]
                    rw [List.dropLast_eq_take] at hW
                    rw [rNum_cut all[j] ((vbytes all[j]).length - 1) hn.1 hn.2 (by omega)] at hW
                    exact ⟨_, hW⟩
                have HST := Lib.hid step
                have HNN := Lib.hid N
                clear hd hn hdr hl2 N step HD
                go_wp2_with fail
                refine HNN.out.mono ?_
                clear HNN
                rintro e w7 ⟨rfl, D7, K7⟩
                have HD7 := Lib.hid (HST.out _ D7)
                have HB8 := Lib.hid (K7.below HB7.out HB7.out.size hp2)
                clear D7 K7 HST
                go_wp2_with fail
                go_roundw
                case rel => exact ⟨j + 1, by omega, by go_num, HD7, HB8⟩
                case measure => simp [intOf]; omega
              · have hje : j = all.length := by omega
                subst hje
                have hd := HD.out
                rw [if_neg hlt] at hd
                obtain ⟨xs, hd⟩ := hd
                clear HD hlt
                have HD := Lib.hid hd
                have CB8 := Kd.C_below HC8'.out HB7.out
                have HC9 := Lib.hid CB8
                clear hd CB8
                obtain ⟨m, hm⟩ : ∃ m : Nat, cut % ((flat all).length : Int) = m := Int.eq_ofNat_of_zero_le (Int.emod_nonneg _ (by omega))
                have hmlt : m < (flat all).length := by
                  have := Int.emod_lt_of_pos cut (b := ((flat all).length : Int)) (by omega)
                  omega
                have htk := takeB .i64 (A := A8) (c := c8) (xs := flat all) (m := m) (by omega) hc8
                have tml : ((flat all).take m).length = m := by simp; omega
                rw [tml] at htk
                have NC : ∀ w', Below wr.heap.size wr w' → Calls Try.prog 28 #[.slice A8 m c8] w' fun e w2 => ∃ p d, e = .returned (.pointer (some ⟨p, 0, none⟩)) ∧ Rdr w2 p d 0 ((flat all).take m) ∧ Below w'.heap.size w' w2 ∧ w'.heap.size ≤ p ∧ w'.heap.size ≤ d := by
                  intro w' hB
                  have := new_calls (w := w') (A := A8) (c := c8) (xs := (flat all).take m) (Kd.C_take (m := m) (Kd.C_below HC9.out hB) (by omega)) (by simp; omega) (fun x hx => HF.out x (List.mem_of_mem_take hx)) (by simp; omega)
                  rw [tml] at this
                  exact this
                have HNC := Lib.hid NC
                have HTM := Lib.hid tml
                have hwc : IntKind.i64.wrap cut = cut := by rw [IntKind.wrap_i64]; omega
                have htd : cut.tmod ((flat all).length : Int) = m := by rw [Int.tmod_eq_emod_of_nonneg hu0]; exact hm
                have HTD := Lib.hid htd
                have HWC := Lib.hid hwc
                clear NC tml hwc
                go_wp2_with fail
                refine Flow.wp_region (fun j w v => match j with | 0 => v = .pointer (some ⟨p2, 0, none⟩) | 1 => v = .int .i64 3 | 2 => v = .bool true | 3 => v = .bool true | 4 => v = .slice A8 (flat all).length c8 | 5 => v = .int .u8 cut | 6 => v = .int .i64 cut | 7 => v = .slice A8 (flat all).length c8 | 8 => v = .int .i64 (flat all).length | 9 => v = .int .i64 m | 10 => v = .slice A8 m c8 | 11 => ∃ p d, v = .pointer (some ⟨p, 0, none⟩) ∧ Rdr w p d 0 ((flat all).take m) | 12 => v = .int .i64 m | 13 => v = .int .u8 cut | 14 => v = .int .i64 cut | 15 => v = .slice A8 (flat all).length c8 | 16 => v = .int .i64 (flat all).length | 17 => v = .int .i64 m | 18 => v = .bool true | 19 => v = .bool true | 20 => v = .bool true | _ => True) (fun w => Below wr.heap.size wr w) (by kernel_rfl) (by kernel_rfl) (by kernel_rfl) (by kernel_rfl) (below_drew (Below.refl _ _)) ?_ ?_
                · intro i o ho a w hG hk hdep
                  have hi : i < 21 := (Array.getElem?_eq_some_iff.1 ho).1
                  rcases (by omega : i = 0 ∨ i = 1 ∨ i = 2 ∨ i = 3 ∨ i = 4 ∨ i = 5 ∨ i = 6 ∨ i = 7 ∨ i = 8 ∨ i = 9 ∨ i = 10 ∨ i = 11 ∨ i = 12 ∨ i = 13 ∨ i = 14 ∨ i = 15 ∨ i = 16 ∨ i = 17 ∨ i = 18 ∨ i = 19 ∨ i = 20) with rfl | rfl | rfl | rfl | rfl | rfl | rfl | rfl | rfl | rfl | rfl | rfl | rfl | rfl | rfl | rfl | rfl | rfl | rfl | rfl | rfl
                  · obtain rfl := Option.some.inj ho
                    have e10 : a.tmps.getD 10 undef = .pointer (some ⟨p2, 0, none⟩) := hk 10 (by kernel_rfl)
                    refine Flow.op_want rfl rfl (fun K hK => ?_)
                    clear hdep hk ho
                    go_simp
                    exact hK _ _ ⟨_, rfl, hG, rfl, fun _ _ h => h⟩
                  · obtain rfl := Option.some.inj ho
                    have e94 : a.tmps.getD 94 undef = .pointer (some ⟨p2, 0, none⟩) := hdep 0 94 (by kernel_rfl)
                    refine Flow.op_want rfl rfl (fun K hK => ?_)
                    clear hdep hk ho
                    go_simp
                    refine (code_calls (HD.out.below hG)).mono ?_
                    rintro e w7 ⟨rfl, rfl⟩
                    exact hK _ _ ⟨_, rfl, hG, rfl, fun _ _ h => h⟩
                  · obtain rfl := Option.some.inj ho
                    have e95 : a.tmps.getD 95 undef = .int .i64 3 := hdep 1 95 (by kernel_rfl)
                    refine Flow.op_want rfl rfl (fun K hK => ?_)
                    clear hdep hk ho
                    go_simp
                    exact hK _ _ ⟨_, rfl, hG, rfl, fun _ _ h => h⟩
                  · obtain rfl := Option.some.inj ho
                    have e96 : a.tmps.getD 96 undef = .bool true := hdep 2 96 (by kernel_rfl)
                    refine Flow.op_want rfl rfl (fun K hK => ?_)
                    clear hdep hk ho
                    go_simp
                    exact hK _ _ ⟨_, rfl, hG, rfl, fun _ _ h => h⟩
                  · obtain rfl := Option.some.inj ho
                    have e8 : a.tmps.getD 8 undef = .slice A8 (flat all).length c8 := hk 8 (by kernel_rfl)
                    have e97 : a.tmps.getD 97 undef = .bool true := hdep 3 97 (by kernel_rfl)
                    refine Flow.op_want rfl (Flow.wanted_of (d := 97) rfl rfl e97) (fun K hK => ?_)
                    clear hdep hk ho
                    go_simp
                    exact hK _ _ ⟨_, rfl, hG, rfl, fun _ _ h => h⟩
                  · obtain rfl := Option.some.inj ho
                    have e1 : a.tmps.getD 1 undef = .int .u8 cut := hk 1 (by kernel_rfl)
                    have e97 : a.tmps.getD 97 undef = .bool true := hdep 3 97 (by kernel_rfl)
                    refine Flow.op_want rfl (Flow.wanted_of (d := 97) rfl rfl e97) (fun K hK => ?_)
                    clear hdep hk ho
                    go_simp
                    exact hK _ _ ⟨_, rfl, hG, rfl, fun _ _ h => h⟩
                  · obtain rfl := Option.some.inj ho
                    have e97 : a.tmps.getD 97 undef = .bool true := hdep 3 97 (by kernel_rfl)
                    have e99 : a.tmps.getD 99 undef = .int .u8 cut := hdep 5 99 (by kernel_rfl)
                    refine Flow.op_want rfl (Flow.wanted_of (d := 97) rfl rfl e97) (fun K hK => ?_)
                    clear hdep hk ho
                    go_simp
                    rw [HWC.out]
                    exact hK _ _ ⟨_, rfl, hG, rfl, fun _ _ h => h⟩
                  · obtain rfl := Option.some.inj ho
                    have e8 : a.tmps.getD 8 undef = .slice A8 (flat all).length c8 := hk 8 (by kernel_rfl)
                    have e97 : a.tmps.getD 97 undef = .bool true := hdep 3 97 (by kernel_rfl)
                    refine Flow.op_want rfl (Flow.wanted_of (d := 97) rfl rfl e97) (fun K hK => ?_)
                    clear hdep hk ho
                    go_simp
                    exact hK _ _ ⟨_, rfl, hG, rfl, fun _ _ h => h⟩
                  · obtain rfl := Option.some.inj ho
                    have e97 : a.tmps.getD 97 undef = .bool true := hdep 3 97 (by kernel_rfl)
                    have e101 : a.tmps.getD 101 undef = .slice A8 (flat all).length c8 := hdep 7 101 (by kernel_rfl)
                    refine Flow.op_want rfl (Flow.wanted_of (d := 97) rfl rfl e97) (fun K hK => ?_)
                    clear hdep hk ho
                    go_simp
                    exact hK _ _ ⟨_, rfl, hG, rfl, fun _ _ h => h⟩
                  · obtain rfl := Option.some.inj ho
                    have e97 : a.tmps.getD 97 undef = .bool true := hdep 3 97 (by kernel_rfl)
                    have e100 : a.tmps.getD 100 undef = .int .i64 cut := hdep 6 100 (by kernel_rfl)
                    have e102 : a.tmps.getD 102 undef = .int .i64 (flat all).length := hdep 8 102 (by kernel_rfl)
                    refine Flow.op_want rfl (Flow.wanted_of (d := 97) rfl rfl e97) (fun K hK => ?_)
                    clear hdep hk ho
                    go_simp
                    rw [if_neg HZ.out]
                    exact hK _ _ ⟨_, rfl, hG, rfl, fun _ _ h => h⟩
                  · obtain rfl := Option.some.inj ho
                    have e97 : a.tmps.getD 97 undef = .bool true := hdep 3 97 (by kernel_rfl)
                    have e98 : a.tmps.getD 98 undef = .slice A8 (flat all).length c8 := hdep 4 98 (by kernel_rfl)
                    have e103 : a.tmps.getD 103 undef = .int .i64 m := hdep 9 103 (by kernel_rfl)
                    refine Flow.op_want rfl (Flow.wanted_of (d := 97) rfl rfl e97) (fun K hK => ?_)
                    clear hdep hk ho
                    go_simp
                    exact hK _ _ ⟨_, rfl, hG, rfl, fun _ _ h => h⟩
                  · obtain rfl := Option.some.inj ho
                    have e97 : a.tmps.getD 97 undef = .bool true := hdep 3 97 (by kernel_rfl)
                    have e104 : a.tmps.getD 104 undef = .slice A8 m c8 := hdep 10 104 (by kernel_rfl)
                    refine Flow.op_want rfl (Flow.wanted_of (d := 97) rfl rfl e97) (fun K hK => ?_)
                    clear hdep hk ho
                    go_simp
                    refine (HNC.out w hG).mono ?_
                    rintro e w8 ⟨p3, d3, rfl, D8, B8, hp3, hd3⟩
                    refine hK _ _ ⟨_, rfl, hG.trans (B8.mono hG.size), ⟨p3, d3, rfl, D8⟩, ?_⟩
                    intro j u
                    split <;> intro h <;> first | exact h | (obtain ⟨p, d, e, D⟩ := h; exact ⟨p, d, e, D.below B8⟩)
                  · obtain rfl := Option.some.inj ho
                    have e97 : a.tmps.getD 97 undef = .bool true := hdep 3 97 (by kernel_rfl)
                    have e105 : (fun (w : World) (v : Value) => ∃ p d, v = .pointer (some ⟨p, 0, none⟩) ∧ Rdr w p d 0 ((flat all).take m)) w (a.tmps.getD 105 undef) := hdep 11 105 (by kernel_rfl)
                    obtain ⟨p3, d3, e105, D3⟩ := e105
                    refine Flow.op_want rfl (Flow.wanted_of (d := 97) rfl rfl e97) (fun K hK => ?_)
                    clear hdep hk ho
                    go_simp
                    refine (left_calls D3).mono ?_
                    rintro e w9 ⟨rfl, rfl⟩
                    rw [HTM.out]
                    exact hK _ _ ⟨_, rfl, hG, rfl, fun _ _ h => h⟩
                  · obtain rfl := Option.some.inj ho
                    have e1 : a.tmps.getD 1 undef = .int .u8 cut := hk 1 (by kernel_rfl)
                    have e97 : a.tmps.getD 97 undef = .bool true := hdep 3 97 (by kernel_rfl)
                    refine Flow.op_want rfl (Flow.wanted_of (d := 97) rfl rfl e97) (fun K hK => ?_)
                    clear hdep hk ho
                    go_simp
                    exact hK _ _ ⟨_, rfl, hG, rfl, fun _ _ h => h⟩
                  · obtain rfl := Option.some.inj ho
                    have e97 : a.tmps.getD 97 undef = .bool true := hdep 3 97 (by kernel_rfl)
                    have e107 : a.tmps.getD 107 undef = .int .u8 cut := hdep 13 107 (by kernel_rfl)
                    refine Flow.op_want rfl (Flow.wanted_of (d := 97) rfl rfl e97) (fun K hK => ?_)
                    clear hdep hk ho
                    go_simp
                    rw [HWC.out]
                    exact hK _ _ ⟨_, rfl, hG, rfl, fun _ _ h => h⟩
                  · obtain rfl := Option.some.inj ho
                    have e8 : a.tmps.getD 8 undef = .slice A8 (flat all).length c8 := hk 8 (by kernel_rfl)
                    have e97 : a.tmps.getD 97 undef = .bool true := hdep 3 97 (by kernel_rfl)
                    refine Flow.op_want rfl (Flow.wanted_of (d := 97) rfl rfl e97) (fun K hK => ?_)
                    clear hdep hk ho
                    go_simp
                    exact hK _ _ ⟨_, rfl, hG, rfl, fun _ _ h => h⟩
                  · obtain rfl := Option.some.inj ho
                    have e97 : a.tmps.getD 97 undef = .bool true := hdep 3 97 (by kernel_rfl)
                    have e109 : a.tmps.getD 109 undef = .slice A8 (flat all).length c8 := hdep 15 109 (by kernel_rfl)
                    refine Flow.op_want rfl (Flow.wanted_of (d := 97) rfl rfl e97) (fun K hK => ?_)
                    clear hdep hk ho
                    go_simp
                    exact hK _ _ ⟨_, rfl, hG, rfl, fun _ _ h => h⟩
                  · obtain rfl := Option.some.inj ho
                    have e97 : a.tmps.getD 97 undef = .bool true := hdep 3 97 (by kernel_rfl)
                    have e108 : a.tmps.getD 108 undef = .int .i64 cut := hdep 14 108 (by kernel_rfl)
                    have e110 : a.tmps.getD 110 undef = .int .i64 (flat all).length := hdep 16 110 (by kernel_rfl)
                    refine Flow.op_want rfl (Flow.wanted_of (d := 97) rfl rfl e97) (fun K hK => ?_)
                    clear hdep hk ho
                    go_simp
                    rw [if_neg HZ.out]
                    exact hK _ _ ⟨_, rfl, hG, rfl, fun _ _ h => h⟩
                  · obtain rfl := Option.some.inj ho
                    have e97 : a.tmps.getD 97 undef = .bool true := hdep 3 97 (by kernel_rfl)
                    have e106 : a.tmps.getD 106 undef = .int .i64 m := hdep 12 106 (by kernel_rfl)
                    have e111 : a.tmps.getD 111 undef = .int .i64 m := hdep 17 111 (by kernel_rfl)
                    refine Flow.op_want rfl (Flow.wanted_of (d := 97) rfl rfl e97) (fun K hK => ?_)
                    clear hdep hk ho
                    go_simp
                    exact hK _ _ ⟨_, rfl, hG, rfl, fun _ _ h => h⟩
                  · obtain rfl := Option.some.inj ho
                    have e97 : a.tmps.getD 97 undef = .bool true := hdep 3 97 (by kernel_rfl)
                    have e112 : a.tmps.getD 112 undef = .bool true := hdep 18 112 (by kernel_rfl)
                    refine Flow.op_want rfl rfl (fun K hK => ?_)
                    clear hdep hk ho
                    go_simp
                    exact hK _ _ ⟨_, rfl, hG, rfl, fun _ _ h => h⟩
                  · obtain rfl := Option.some.inj ho
                    have e113 : a.tmps.getD 113 undef = .bool true := hdep 19 113 (by kernel_rfl)
                    refine Flow.op_want rfl rfl (fun K hK => ?_)
                    clear hdep hk ho
                    go_simp
                    exact hK _ _ ⟨_, rfl, hG, rfl, fun _ _ h => h⟩
                · intro a' w9 hG hdf hsz hk hval
                  have e4 : a'.tmps.getD 4 undef = .bool true := hval 20 _ 4 rfl rfl
                  have hdf' : a'.defers = [] := hdf
                  clear hk hval hdf hsz
                  go_wp2_with fail
                  refine bodyPost_ret (results_tmp rfl _ _ _) hdf' ?_
                  exact ⟨congrArg _ e4, ((HB2.out.trans (HB5.out.mono HB2.out.size)).trans (HB7.out.mono (Nat.le_trans HB2.out.size HB5.out.size))).trans (hG.mono (Nat.le_trans HB2.out.size (Nat.le_trans HB5.out.size HB7.out.size)))⟩

theorem law {w : World} {A0 : Option Addr} {c0 : Nat} {l : List Int} (cut : Int) (hn : (Lit.int .u8 cut).wf = true) (hr0 : CU w A0 l) (hc0 : l.length ≤ c0) (hw : ∀ x ∈ l, (Lit.int .u64 x).wf = true) :
    Calls Try.prog 9 #[.slice A0 l.length c0, .int .u8 cut] w fun e w' => e = .returned (.bool true) ∧ Below w.heap.size w w' := by
  simp [Lit.wf, IntKind.min, IntKind.max, IntKind.bits, IntKind.signed] at hn
  by_cases hl : l.length ≤ 100
  · refine small cut (by omega) (by omega) hr0 hc0 (fun x hx => ?_) hl
    have h := hw x hx
    simp [Lit.wf, IntKind.min, IntKind.max, IntKind.bits, IntKind.signed] at h
    omega
  · have hgt : 100 < l.length := by omega
    clear hl
    go_enter Try.func9, Try.ntmps9
    go_wp2_with fail
    refine (Awake10.awake _).mono ?_
    rintro e w1 ⟨rfl, B1⟩
    go_wp2_with fail
    go_ret
    exact ⟨rfl, B1⟩
end Go.Proofs.Ytmccghadgihbpaa.VarintBackWalk
