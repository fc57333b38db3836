/- The document's short numbers behind bytes are those that the program puts. -/
import Derived.Test.YtmccghadgihbpaaVPut
namespace Go.Proofs.Ytmccghadgihbpaa.RefPut
open Go Go.RowKit Go.Proofs.YtmccghadgihbpaaW.PrintWords Go.Proofs.YtmccghadgihbpaaW.PrintLast Go.Proofs.YtmccghadgihbpaaW.PrintMore Go.Proofs.Ytmccghadgihbpaa.Keep Go.Proofs.Ytmccghadgihbpaa.Mem Go.Proofs.Ytmccghadgihbpaa.VPut
set_option linter.unusedVariables false

set_option maxHeartbeats 1000000 in
theorem put_calls {w : World} {A : Option Addr} {c : Nat} {b : List Int} (hr : CB w A b) (hc : b.length ≤ c) (n : Int) (n0 : 0 ≤ n) (n1 : n < 4611686018427387904) (hl : b.length + 8 ≤ 140737488355328) :
    Calls Try.prog 48 #[.slice A b.length c, .int .u64 n] w fun e w' => ∃ v, e = .returned v ∧ RB w' w.heap.size v (b ++ vbytes n) ∧ Below w.heap.size w w' := by
  rcases (by omega : n < 64 ∨ (64 ≤ n ∧ n < 16384) ∨ (16384 ≤ n ∧ n < 1073741824) ∨ (1073741824 ≤ n ∧ n < 4611686018427387904)) with hn | ⟨hm, hn⟩ | ⟨hm, hn⟩ | ⟨hm, hn⟩
  · have ev : Hid (vbytes n = [n]) := by
      show vbytes n = _
      unfold vbytes
      rw [if_pos hn]
    go_enter Try.func48, Try.ntmps48
    go_wp2_with (first
      | ((with_reducible refine gate_dst (N := 6) rfl ?_); refine litB (w0 := w) w.heap.size rfl (N := 6) rfl rfl (Below.refl _ _) (Nat.le_refl _) ?_; intro v1 w1 R1 B1 G1 N1; clear G1 N1)
      | ((with_reducible refine gate_builtin (b := .append) (xs := #[.tmp 6, .tmp 7]) rfl ?_); refine appB (w0 := w) w.heap.size rfl _ _ rfl (A := A) (ys := b) R1 rfl rfl rfl (Kd.C_below hr B1) B1 B1.size (by simp; omega) ?_; intro v2 w2 R2 B2 G2 N2; clear G2 N2 R1 B1 hr)
      | ((with_reducible refine gate_builtin (b := .append) (xs := #[.tmp 12, .tmp 15]) rfl ?_); refine appB (w0 := w) w.heap.size rfl _ _ rfl (A := some ⟨w2.heap.size, 0, none⟩) (ys := [n]) (Kd.R_below R2 (below_alloc (Below.refl _ _) _)) rfl rfl rfl (C_lit .u8 w2 5 [n] (by simp)) (B2.alloc B2.size _) (Nat.le_trans B2.size (by simp)) (by simp; omega) ?_; intro v3 w3 R3 B3 G3 N3; clear G3 N3 R2 B2))
    go_ret
    refine ⟨_, rfl, ?_, B3⟩
    rw [ev.out]
    exact R3
  · have ev : Hid (vbytes n = [n / 256 + 64, n % 256]) := by
      show vbytes n = _
      unfold vbytes
      rw [if_neg (by omega)] ; rw [if_pos hn]
    go_enter Try.func48, Try.ntmps48
    go_wp2_with (first
      | ((with_reducible refine gate_dst (N := 6) rfl ?_); refine litB (w0 := w) w.heap.size rfl (N := 6) rfl rfl (Below.refl _ _) (Nat.le_refl _) ?_; intro v1 w1 R1 B1 G1 N1; clear G1 N1)
      | ((with_reducible refine gate_builtin (b := .append) (xs := #[.tmp 6, .tmp 7]) rfl ?_); refine appB (w0 := w) w.heap.size rfl _ _ rfl (A := A) (ys := b) R1 rfl rfl rfl (Kd.C_below hr B1) B1 B1.size (by simp; omega) ?_; intro v2 w2 R2 B2 G2 N2; clear G2 N2 R1 B1 hr)
      | ((with_reducible refine gate_builtin (b := .append) (xs := #[.tmp 20, .tmp 27]) rfl ?_); refine appB (w0 := w) w.heap.size rfl _ _ rfl (A := some ⟨w2.heap.size, 0, none⟩) (ys := [n / 256 + 64, n % 256]) (Kd.R_below R2 (below_alloc (Below.refl _ _) _)) rfl rfl rfl (C_lit .u8 w2 5 [n / 256 + 64, n % 256] (by simp)) (B2.alloc B2.size _) (Nat.le_trans B2.size (by simp)) (by simp; omega) ?_; intro v3 w3 R3 B3 G3 N3; clear G3 N3 R2 B2))
    go_ret
    refine ⟨_, rfl, ?_, B3⟩
    rw [ev.out]
    exact R3
  · have ev : Hid (vbytes n = [n / 16777216 + 128, n / 65536 % 256, n / 256 % 256, n % 256]) := by
      show vbytes n = _
      unfold vbytes
      rw [if_neg (by omega)] ; rw [if_neg (by omega)] ; rw [if_pos hn]
    go_enter Try.func48, Try.ntmps48
    go_wp2_with (first
      | ((with_reducible refine gate_dst (N := 6) rfl ?_); refine litB (w0 := w) w.heap.size rfl (N := 6) rfl rfl (Below.refl _ _) (Nat.le_refl _) ?_; intro v1 w1 R1 B1 G1 N1; clear G1 N1)
      | ((with_reducible refine gate_builtin (b := .append) (xs := #[.tmp 6, .tmp 7]) rfl ?_); refine appB (w0 := w) w.heap.size rfl _ _ rfl (A := A) (ys := b) R1 rfl rfl rfl (Kd.C_below hr B1) B1 B1.size (by simp; omega) ?_; intro v2 w2 R2 B2 G2 N2; clear G2 N2 R1 B1 hr)
      | ((with_reducible refine gate_builtin (b := .append) (xs := #[.tmp 32, .tmp 45]) rfl ?_); refine appB (w0 := w) w.heap.size rfl _ _ rfl (A := some ⟨w2.heap.size, 0, none⟩) (ys := [n / 16777216 + 128, n / 65536 % 256, n / 256 % 256, n % 256]) (Kd.R_below R2 (below_alloc (Below.refl _ _) _)) rfl rfl rfl (C_lit .u8 w2 5 [n / 16777216 + 128, n / 65536 % 256, n / 256 % 256, n % 256] (by simp)) (B2.alloc B2.size _) (Nat.le_trans B2.size (by simp)) (by simp; omega) ?_; intro v3 w3 R3 B3 G3 N3; clear G3 N3 R2 B2))
    go_ret
    refine ⟨_, rfl, ?_, B3⟩
    rw [ev.out]
    exact R3
  · have ev : Hid (vbytes n = [n / 72057594037927936 + 192, n / 281474976710656 % 256, n / 1099511627776 % 256, n / 4294967296 % 256, n / 16777216 % 256, n / 65536 % 256, n / 256 % 256, n % 256]) := by
      show vbytes n = _
      unfold vbytes
      rw [if_neg (by omega)] ; rw [if_neg (by omega)] ; rw [if_neg (by omega)]
    go_enter Try.func48, Try.ntmps48
    go_wp2_with (first
      | ((with_reducible refine gate_dst (N := 6) rfl ?_); refine litB (w0 := w) w.heap.size rfl (N := 6) rfl rfl (Below.refl _ _) (Nat.le_refl _) ?_; intro v1 w1 R1 B1 G1 N1; clear G1 N1)
      | ((with_reducible refine gate_builtin (b := .append) (xs := #[.tmp 6, .tmp 7]) rfl ?_); refine appB (w0 := w) w.heap.size rfl _ _ rfl (A := A) (ys := b) R1 rfl rfl rfl (Kd.C_below hr B1) B1 B1.size (by simp; omega) ?_; intro v2 w2 R2 B2 G2 N2; clear G2 N2 R1 B1 hr)
      | ((with_reducible refine gate_builtin (b := .append) (xs := #[.tmp 47, .tmp 72]) rfl ?_); refine appB (w0 := w) w.heap.size rfl _ _ rfl (A := some ⟨w2.heap.size, 0, none⟩) (ys := [n / 72057594037927936 + 192, n / 281474976710656 % 256, n / 1099511627776 % 256, n / 4294967296 % 256, n / 16777216 % 256, n / 65536 % 256, n / 256 % 256, n % 256]) (Kd.R_below R2 (below_alloc (Below.refl _ _) _)) rfl rfl rfl (C_lit .u8 w2 5 [n / 72057594037927936 + 192, n / 281474976710656 % 256, n / 1099511627776 % 256, n / 4294967296 % 256, n / 16777216 % 256, n / 65536 % 256, n / 256 % 256, n % 256] (by simp)) (B2.alloc B2.size _) (Nat.le_trans B2.size (by simp)) (by simp; omega) ?_; intro v3 w3 R3 B3 G3 N3; clear G3 N3 R2 B2))
    go_ret
    refine ⟨_, rfl, ?_, B3⟩
    rw [ev.out]
    exact R3

set_option maxHeartbeats 1000000 in
theorem putAll_calls {w : World} {A0 A1 : Option Addr} {c0 c1 : Nat} {b l : List Int} (hr0 : CB w A0 b) (hc0 : b.length ≤ c0) (hr1 : CU w A1 l) (hc1 : l.length ≤ c1) (hw : ∀ n ∈ l, 0 ≤ n ∧ n < 18446744073709551616) (hl : b.length + 8 * l.length ≤ 140737488355000) :
    Calls Try.prog 27 #[.slice A0 b.length c0, .slice A1 l.length c1] w fun e w' => ∃ A c, e = .returned (.tuple #[.slice A (vputR b l).1.length c, .bool (vput b l).isSome]) ∧ (vputR b l).1.length ≤ c ∧ CB w' A (vputR b l).1 ∧ Below w.heap.size w w' := by
  have HW := Lib.hid hw
  have HR1 := Lib.hid hr1
  have HR0 := Lib.hid hr0
  clear hw hr1 hr0
  go_enter Try.func27, Try.ntmps27
  go_wp2_with fail
  go_loopw [0, 6] (fun v i wr => ∃ (k : Nat) (out : List Int) (A : Option Addr) (c : Nat), k ≤ l.length ∧ i = .int .i64 k ∧ v = .slice A out.length c ∧ out.length ≤ c ∧ Hid (CB wr A out) ∧ Hid (Below w.heap.size w wr) ∧ out.length ≤ b.length + 8 * k ∧ Hid (vput b l = vput out (l.drop k))) (fun _ i _ => l.length - (intOf i).toNat)
  case atStart => exact ⟨0, b, A0, c0, Nat.zero_le _, rfl, rfl, hc0, HR0, Lib.hid (Below.refl _ _), by omega, Lib.hid rfl⟩
  case round =>
    obtain ⟨k, out, A, c, hk, rfl, rfl, hoc, HR, HB, hlen, HV⟩ := hrel
    by_cases hlt : k < l.length
    · obtain ⟨ad, rfl, hcell⟩ := Kd.at_int (Kd.C_below HR1.out HB.out) (k : Int) (Int.natCast_nonneg _) (by omega)
      have hb0 := HW.out l[k] (List.getElem_mem hlt)
      have e0 : rd l (k : Int) = l[k] := by unfold rd; simp [List.getD_eq_getElem?_getD, List.getElem?_eq_getElem hlt]
      have ed : l.drop k = l[k] :: l.drop (k + 1) := List.drop_eq_getElem_cons hlt
      rw [e0, Int.toNat_natCast] at hcell
      have HV2 : Hid (vput b l = if l[k] < 4611686018427387904 then vput (out ++ vbytes l[k]) (l.drop (k + 1)) else none) := by
        show vput b l = _
        rw [HV.out, ed]; rfl
      clear e0 ed HV
      obtain ⟨n0, n1⟩ := hb0
      generalize l[k] = n at *
      by_cases hn : n < 4611686018427387904
      · go_wp2_with fail
        refine (put_calls HR.out hoc n n0 hn (by omega)).mono ?_
        rintro e w1 ⟨v, rfl, R1, B1⟩
        obtain ⟨A2, c2, rfl, hc2, hC2, _⟩ := R1.read
        have HC2 := Lib.hid hC2
        have HB2 := Lib.hid (HB.out.trans (B1.mono HB.out.size))
        clear R1 B1 hC2 HR HB
        go_wp2_with fail
        go_roundw
        case rel => exact ⟨k + 1, out ++ vbytes n, A2, c2, by omega, by go_num, by rw [List.length_append], hc2, HC2, HB2, by have := vbytes_length n; simp; omega, Lib.hid (by rw [HV2.out, if_pos hn])⟩
        case measure => simp [intOf]; omega
      · go_wp2_with fail
        go_ret2
        have hv : vput b l = none := by rw [HV2.out, if_neg (by omega)]
        have hv2 : vputR b l = ([], 2) := by unfold vputR; rw [hv]
        rw [hv2, hv]
        exact ⟨none, 0, rfl, by simp, Kd.C_nil _ _, HB.out⟩
    · have hke : k = l.length := by omega
      subst hke
      clear hlt
      go_wp2
      go_ret2
      have hv : vput b l = some out := by
        have := HV.out
        rw [List.drop_length] at this
        rw [this]
        rfl
      have hv2 : vputR b l = (out, 0) := by unfold vputR; rw [hv]
      rw [hv2, hv]
      exact ⟨A, c, rfl, hoc, HR.out, HB.out⟩

end Go.Proofs.Ytmccghadgihbpaa.RefPut
