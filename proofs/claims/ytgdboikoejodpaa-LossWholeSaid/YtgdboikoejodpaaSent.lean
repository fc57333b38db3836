/- Sent: the walks. -/
import Derived.Test.YtgdboikoejodpaaClone
namespace Go.Proofs.Ytgdboikoejodpaa.Sent
open Go Go.RowKit Go.Proofs.YtgdboikoejodpaaW.PrintWords Go.Proofs.YtgdboikoejodpaaW.PrintLast Go.Proofs.YtgdboikoejodpaaW.PrintMore Go.Proofs.Ytgdboikoejodpaa.Keep Go.Proofs.Ytgdboikoejodpaa.Led Go.Proofs.Ytgdboikoejodpaa.Rate Go.Proofs.Ytgdboikoejodpaa.Rd Go.Proofs.Ytgdboikoejodpaa.Timer Go.Proofs.Ytgdboikoejodpaa.LedSp Go.Proofs.Ytgdboikoejodpaa.Drop Go.Proofs.Ytgdboikoejodpaa.In Go.Proofs.Ytgdboikoejodpaa.Split Go.Proofs.Ytgdboikoejodpaa.Clone
attribute [local go_sem] max2_int min2_int max_two min_two max_three min_three max_four min_four
set_option linter.unusedVariables false

/-- A packet's numbers are words. -/
abbrev uk (x : S) : Prop := 0 ≤ x.pn ∧ x.pn < 18446744073709551616 ∧ 0 ≤ x.time ∧ x.time < 18446744073709551616 ∧ 0 ≤ x.size ∧ x.size < 18446744073709551616
/-- Out of range: told so. -/
def bad (s : Int) (x : S) : Prop := s < 0 ∨ 3 ≤ s ∨ 1099511627776 < x.time ∨ 1200 < x.size ∨ 4611686018427387903 < x.pn
set_option maxHeartbeats 1000000 in
set_option maxRecDepth 100000 in
theorem sent_range {w : World} (p : Nat) (s : Int) (x : S) (hs : -9223372036854775808 ≤ s ∧ s ≤ 9223372036854775807) (hu : uk x) (hb : bad s x) :
    Calls Try.prog 12 #[.pointer (some ⟨p, 0, none⟩), .int .i64 s, argS x] w fun e w' => e = .returned (.int .i64 2) ∧ Below w.heap.size w w' := by
  have B := (Below.refl w.heap.size w).alloc (Nat.le_refl _) (.cells #[.int .u64 x.pn, .int .u64 x.time, .int .u64 x.size, .bool x.asks, .slice x.fa x.fn x.fc] 30)
  have HK := Lib.hid (sent_cells (w := w) x 30)
  have HB := Lib.hid B
  clear B
  obtain ⟨u1, u2, u3, u4, u5, u6⟩ := hu
  obtain ⟨s0, s1⟩ := hs
  by_cases c1 : s < 0
  · go_enter Try.func12, Try.ntmps12
    go_upto_region 1 with fail
    generalize w.alloc (.cells #[.int .u64 x.pn, .int .u64 x.time, .int .u64 x.size, .bool x.asks, .slice x.fa x.fn x.fc] 30) = w1 at HK HB ⊢
    have q0 := blk_cell HK.out 0
    have q1 := blk_cell HK.out 1
    have q2 := blk_cell HK.out 2
    clear hb
    go_wp2_with fail
    go_ret
    exact ⟨rfl, HB.out⟩
  by_cases c2 : 3 ≤ s
  · go_enter Try.func12, Try.ntmps12
    go_upto_region 1 with fail
    generalize w.alloc (.cells #[.int .u64 x.pn, .int .u64 x.time, .int .u64 x.size, .bool x.asks, .slice x.fa x.fn x.fc] 30) = w1 at HK HB ⊢
    have q0 := blk_cell HK.out 0
    have q1 := blk_cell HK.out 1
    have q2 := blk_cell HK.out 2
    clear hb
    go_wp2_with fail
    go_ret
    exact ⟨rfl, HB.out⟩
  by_cases c3 : 1099511627776 < x.time
  · go_enter Try.func12, Try.ntmps12
    go_upto_region 1 with fail
    generalize w.alloc (.cells #[.int .u64 x.pn, .int .u64 x.time, .int .u64 x.size, .bool x.asks, .slice x.fa x.fn x.fc] 30) = w1 at HK HB ⊢
    have q0 := blk_cell HK.out 0
    have q1 := blk_cell HK.out 1
    have q2 := blk_cell HK.out 2
    clear hb
    go_wp2_with fail
    go_ret
    exact ⟨rfl, HB.out⟩
  by_cases c4 : 1200 < x.size
  · go_enter Try.func12, Try.ntmps12
    go_upto_region 1 with fail
    generalize w.alloc (.cells #[.int .u64 x.pn, .int .u64 x.time, .int .u64 x.size, .bool x.asks, .slice x.fa x.fn x.fc] 30) = w1 at HK HB ⊢
    have q0 := blk_cell HK.out 0
    have q1 := blk_cell HK.out 1
    have q2 := blk_cell HK.out 2
    clear hb
    go_wp2_with fail
    go_ret
    exact ⟨rfl, HB.out⟩
  have c5 : 4611686018427387903 < x.pn := by unfold bad at hb; omega
  go_enter Try.func12, Try.ntmps12
  go_upto_region 1 with fail
  generalize w.alloc (.cells #[.int .u64 x.pn, .int .u64 x.time, .int .u64 x.size, .bool x.asks, .slice x.fa x.fn x.fc] 30) = w1 at HK HB ⊢
  have q0 := blk_cell HK.out 0
  have q1 := blk_cell HK.out 1
  have q2 := blk_cell HK.out 2
  clear hb
  go_wp2_with fail
  go_ret
  exact ⟨rfl, HB.out⟩

theorem kp_box {p : Nat} {w w1 : World} (h : Below w.heap.size w w1) : Kp p w w1 := Kp.of_below h
set_option maxHeartbeats 1000000 in
set_option maxRecDepth 100000 in
theorem sent_order {w : World} {p base : Nat} {L : Lg} {v : Nat → Value} (h : Led w p base L v) (i : Nat) (hi : i < 3) (x : S) (hu : uk x) (hb : ¬ bad (i : Int) x) (hn : x.pn < (L.sp i).next) :
    Calls Try.prog 12 #[.pointer (some ⟨p, 0, none⟩), .int .i64 (i : Int), argS x] w fun e w' => e = .returned (.int .i64 9) ∧ Below w.heap.size w w' := by
  have B := (Below.refl w.heap.size w).alloc (Nat.le_refl _) (.cells #[.int .u64 x.pn, .int .u64 x.time, .int .u64 x.size, .bool x.asks, .slice x.fa x.fn x.fc] 30)
  have HK := Lib.hid (sent_cells (w := w) x 30)
  have HB := Lib.hid B
  clear B
  obtain ⟨u1, u2, u3, u4, u5, u6⟩ := hu
  have i0 : ((i : Int) < 0) = False := eq_false (by omega)
  have i1 : ((i : Int) ≥ 3) = False := eq_false (by omega)
  unfold bad at hb
  have hb1 : ¬ 1099511627776 < x.time := by omega
  have hb2 : ¬ 1200 < x.size := by omega
  have hb3 : ¬ 4611686018427387903 < x.pn := by omega
  clear hb
  have HL := Lib.hid (h.below HB.out)
  obtain ⟨nx, hnx⟩ : ∃ n, (L.sp i).next = n := ⟨_, rfl⟩
  rw [hnx] at hn
  have hd : decide (x.pn < nx) = true := by simp [hn]
  have HNX := Lib.hid hnx
  clear h hnx
  go_enter Try.func12, Try.ntmps12
  go_upto_region 1 with fail
  generalize w.alloc (.cells #[.int .u64 x.pn, .int .u64 x.time, .int .u64 x.size, .bool x.asks, .slice x.fa x.fn x.fc] 30) = w1 at HK HB HL ⊢
  have q0 := blk_cell HK.out 0
  have q1 := blk_cell HK.out 1
  have q2 := blk_cell HK.out 2
  obtain ⟨k0, k1, k2, k3⟩ := sp_cells HL.out i hi
  rw [HNX.out] at k1
  clear k0 k2 k3
  go_wp2_with fail
  go_quiet (fail)
  go_wp2_with fail
  go_ret
  exact ⟨rfl, ⟨HB.out.os, HB.out.tape, HB.out.output, HB.out.size, HB.out.block⟩⟩
set_option maxHeartbeats 1000000 in
set_option maxRecDepth 100000 in
theorem sent_full {w : World} {p base : Nat} {L : Lg} {v : Nat → Value} (h : Led w p base L v) (i : Nat) (hi : i < 3) (x : S) (hu : uk x) (hb : ¬ bad (i : Int) x) (hn : (L.sp i).next ≤ x.pn) (hf : 1024 ≤ (L.sp i).list.length) (hm : (L.sp i).list.length ≤ 1024) :
    Calls Try.prog 12 #[.pointer (some ⟨p, 0, none⟩), .int .i64 (i : Int), argS x] w fun e w' => e = .returned (.int .i64 42) ∧ Below w.heap.size w w' := by
  have B := (Below.refl w.heap.size w).alloc (Nat.le_refl _) (.cells #[.int .u64 x.pn, .int .u64 x.time, .int .u64 x.size, .bool x.asks, .slice x.fa x.fn x.fc] 30)
  have HK := Lib.hid (sent_cells (w := w) x 30)
  have HB := Lib.hid B
  clear B
  obtain ⟨u1, u2, u3, u4, u5, u6⟩ := hu
  have i0 : ((i : Int) < 0) = False := eq_false (by omega)
  have i1 : ((i : Int) ≥ 3) = False := eq_false (by omega)
  unfold bad at hb
  have hb1 : ¬ 1099511627776 < x.time := by omega
  have hb2 : ¬ 1200 < x.size := by omega
  have hb3 : ¬ 4611686018427387903 < x.pn := by omega
  clear hb
  have HL := Lib.hid (h.below HB.out)
  obtain ⟨nx, hnx⟩ : ∃ n, (L.sp i).next = n := ⟨_, rfl⟩
  rw [hnx] at hn
  have hd : decide (x.pn < nx) = false := by simp; omega
  have HNX := Lib.hid hnx
  obtain ⟨A, c, ev, -⟩ := row_slice (h.row i hi)
  obtain ⟨n, hn2⟩ : ∃ n, (L.sp i).list.length = n := ⟨_, rfl⟩
  rw [hn2] at ev hf hm
  have HEV := Lib.hid ev
  have en : n = 1024 := by omega
  subst en
  clear h hnx ev hn2
  go_enter Try.func12, Try.ntmps12
  go_upto_region 1 with fail
  generalize w.alloc (.cells #[.int .u64 x.pn, .int .u64 x.time, .int .u64 x.size, .bool x.asks, .slice x.fa x.fn x.fc] 30) = w1 at HK HB HL ⊢
  have q0 := blk_cell HK.out 0
  have q1 := blk_cell HK.out 1
  have q2 := blk_cell HK.out 2
  obtain ⟨k0, k1, k2, k3⟩ := sp_cells HL.out i hi
  rw [HNX.out] at k1
  rw [HEV.out] at k0
  clear k2 k3
  go_wp2_with fail
  go_quiet (fail)
  go_wp2_with fail
  go_ret
  exact ⟨rfl, ⟨HB.out.os, HB.out.tape, HB.out.output, HB.out.size, HB.out.block⟩⟩
set_option maxHeartbeats 1000000 in
set_option maxRecDepth 100000 in
theorem sent_quiet {w : World} {p base : Nat} {L : Lg} {v : Nat → Value} (h : Led w p base L v) (i : Nat) (hi : i < 3) (x : S) (hu : uk x) (hb : ¬ bad (i : Int) x) (hn : (L.sp i).next ≤ x.pn) (hf : (L.sp i).list.length < 1024) (ha : x.asks = false) :
    Calls Try.prog 12 #[.pointer (some ⟨p, 0, none⟩), .int .i64 (i : Int), argS x] w fun e w' => e = .returned (.int .i64 0) ∧ Led w' p base (setSp L i { L.sp i with next := x.pn + 1 }) v ∧ Kp p w w' := by
  have B := (Below.refl w.heap.size w).alloc (Nat.le_refl _) (.cells #[.int .u64 x.pn, .int .u64 x.time, .int .u64 x.size, .bool x.asks, .slice x.fa x.fn x.fc] 30)
  have HK := Lib.hid (sent_cells (w := w) x 30)
  have HB := Lib.hid B
  clear B
  obtain ⟨u1, u2, u3, u4, u5, u6⟩ := hu
  have i0 : ((i : Int) < 0) = False := eq_false (by omega)
  have i1 : ((i : Int) ≥ 3) = False := eq_false (by omega)
  unfold bad at hb
  have hb1 : ¬ 1099511627776 < x.time := by omega
  have hb2 : ¬ 1200 < x.size := by omega
  have hb3 : ¬ 4611686018427387903 < x.pn := by omega
  clear hb
  have HL := Lib.hid (h.below HB.out)
  obtain ⟨nx, hnx⟩ : ∃ n, (L.sp i).next = n := ⟨_, rfl⟩
  rw [hnx] at hn
  have hd : decide (x.pn < nx) = false := by simp; omega
  have HNX := Lib.hid hnx
  obtain ⟨A, c, ev, -⟩ := row_slice (h.row i hi)
  obtain ⟨n, hn2⟩ : ∃ n, (L.sp i).list.length = n := ⟨_, rfl⟩
  rw [hn2] at ev hf
  have HEV := Lib.hid ev
  have hpl := blk_lt h.blk
  have hne : w.heap.size ≠ p := by omega
  have hwp : IntKind.u64.wrap (x.pn + 1) = x.pn + 1 := by rw [IntKind.wrap_u64]; omega
  have HA := Lib.hid ha
  clear h hnx ev hn2 ha
  go_enter Try.func12, Try.ntmps12
  go_upto_region 1 with fail
  generalize w.alloc (.cells #[.int .u64 x.pn, .int .u64 x.time, .int .u64 x.size, .bool x.asks, .slice x.fa x.fn x.fc] 30) = w1 at HK HB HL ⊢
  have q0 := blk_cell HK.out 0
  have q1 := blk_cell HK.out 1
  have q2 := blk_cell HK.out 2
  obtain ⟨k0, k1, k2, k3⟩ := sp_cells HL.out i hi
  have q3 := blk_cell HK.out 3
  have z1 := sp_frozen HL.out (7 + i * 4 + 1)
  rw [HNX.out] at k1
  rw [HEV.out] at k0
  rw [HA.out] at q3
  clear k2 k3
  go_wp2_with fail
  go_quiet (fail)
  go_wp2_with fail
  go_ret
  exact ⟨rfl, putNext (led_drewN HL.out _) i hi (x.pn + 1), ((Kp.of_below HB.out).drewN _).set _ _⟩
end Go.Proofs.Ytgdboikoejodpaa.Sent
