/- The rate: how answers come, and the window; what each of its methods makes of it. -/
import Derived.Test.YtgdboikoejodpaaLed
import Derived.RegionTactic
import Derived.BigRegion
import Derived.Outline
import Derived.Deep.Cut
import Derived.Deep.QuietTactic
import Derived.BigQuiet
import Derived.WalkLawsBesides
import Derived.WalkSpells
namespace Go.Proofs.Ytgdboikoejodpaa.Rate
open Go Go.RowKit Go.Proofs.YtgdboikoejodpaaW.PrintWords Go.Proofs.YtgdboikoejodpaaW.PrintLast Go.Proofs.YtgdboikoejodpaaW.PrintMore Go.Proofs.Ytgdboikoejodpaa.Keep Go.Proofs.Ytgdboikoejodpaa.Led
attribute [local go_sem] max2_int min2_int max_two min_two max_three min_three max_four min_four
set_option linter.unusedVariables false

def timeR (n : Int) (r : Rt) : Rt :=
  if r.latest = 0 then { r with latest := mx n 1, smooth := mx n 1, vary := mx n 1 / 2 }
  else { r with latest := mx n 1, vary := (3 * r.vary + (mx r.smooth (mx n 1) - mn r.smooth (mx n 1))) / 4, smooth := (7 * r.smooth + mx n 1) / 8 }
def moreR (x : S) (r : Rt) : Rt :=
  { r with flight := r.flight - x.size, window := if x.time + 1 ≤ r.began then r.window else if r.window < r.limit then r.window + x.size else r.window + 1200 * x.size / r.window }
def lessR (x : S) (now : Int) (r : Rt) : Rt :=
  if x.time + 1 > r.began then { r with flight := r.flight - x.size, began := now + 1, window := mx (r.window / 2) 2400, limit := mx (r.window / 2) 2400 }
  else { r with flight := r.flight - x.size }
def patR (r : Rt) : Int := mx (mx r.smooth r.latest * 9 / 8) 1

structure RtB (r : Rt) : Prop where
  sm : 0 ≤ r.smooth ∧ r.smooth ≤ 17592186044416
  va : 0 ≤ r.vary ∧ r.vary ≤ 17592186044416
  la : 0 ≤ r.latest ∧ r.latest ≤ 17592186044416
  wi : 0 < r.window ∧ r.window ≤ 1125899906842624
  li : 0 ≤ r.limit ∧ r.limit < 18446744073709551616
  fl : 0 ≤ r.flight ∧ r.flight ≤ 1125899906842624
  be : 0 ≤ r.began ∧ r.began ≤ 17592186044416

theorem rate_cells {w : World} {p base : Nat} {L : Lg} {v : Nat → Value} (h : Led w p base L v) :
    w.cell? ⟨p, 0, none⟩ = some (.int .u64 L.r.smooth) ∧ w.cell? ⟨p, 1, none⟩ = some (.int .u64 L.r.vary) ∧ w.cell? ⟨p, 2, none⟩ = some (.int .u64 L.r.latest) ∧ w.cell? ⟨p, 3, none⟩ = some (.int .u64 L.r.window) ∧ w.cell? ⟨p, 4, none⟩ = some (.int .u64 L.r.limit) ∧ w.cell? ⟨p, 5, none⟩ = some (.int .u64 L.r.flight) ∧ w.cell? ⟨p, 6, none⟩ = some (.int .u64 L.r.began) :=
  ⟨blk_cell h.blk 0, blk_cell h.blk 1, blk_cell h.blk 2, blk_cell h.blk 3, blk_cell h.blk 4, blk_cell h.blk 5, blk_cell h.blk 6⟩

theorem ret64 {a b : Int} (h : a = b) : Ending.returned (.int .u64 a) = .returned (.int .u64 b) := by rw [h]
theorem led_drew {w : World} {p base : Nat} {L : Lg} {v : Nat → Value} (h : Led w p base L v) : Led w.drew p base L v := h.stays (fun _ _ => rfl)
theorem led_drewN {w : World} {p base : Nat} {L : Lg} {v : Nat → Value} (h : Led w p base L v) (n : Nat) : Led (w.drewN n) p base L v := h.stays (fun _ _ => rfl)
theorem kp_drew {p : Nat} {w w' : World} (h : Kp p w w') : Kp p w w'.drew := ⟨h.os, h.tape, h.output, h.size, h.block⟩
theorem setR {L : Lg} {v : Nat → Value} (r : Rt) (j : Nat) (u : Value) (h : (L.cells v).setIfInBounds j u = ({ L with r := r } : Lg).cells v) : (L.cells v).setIfInBounds j u = ({ L with r := r } : Lg).cells v := h

set_option maxHeartbeats 1000000 in
theorem pat_calls {w : World} {p base : Nat} {L : Lg} {v : Nat → Value} (h : Led w p base L v) (hb : RtB L.r) :
    Calls Try.prog 45 #[.pointer (some ⟨p, 0, none⟩)] w fun e w' => e = .returned (.int .u64 (patR L.r)) ∧ ∃ n, w' = w.drewN n := by
  obtain ⟨k0, k1, k2, k3, k4, k5, k6⟩ := rate_cells h
  obtain ⟨s0, s1⟩ := hb.sm
  obtain ⟨l0, l1⟩ := hb.la
  clear k1 k3 k4 k5 k6
  go_enter Try.func45, Try.ntmps45
  go_wp2_with fail
  go_quiet (fail)
  go_wp2_with fail
  all_goals (go_ret; refine ⟨ret64 ?_, nq, rfl⟩; unfold patR mx; (repeat' split) <;> omega)

theorem sent_cells {w : World} (x : S) : ∀ T : TypeId, (w.alloc (.cells #[.int .u64 x.pn, .int .u64 x.time, .int .u64 x.size, .bool x.asks, .slice x.fa x.fn x.fc] T)).heap[w.heap.size]? = some (.cells #[.int .u64 x.pn, .int .u64 x.time, .int .u64 x.size, .bool x.asks, .slice x.fa x.fn x.fc] T (0, 0)) := fun T => heap_alloc_new _ _

abbrev argS (x : S) : Value := .agg #[.int .u64 x.pn, .int .u64 x.time, .int .u64 x.size, .bool x.asks, .slice x.fa x.fn x.fc]

set_option maxHeartbeats 2000000 in
theorem more_calls {w : World} {p base : Nat} {L : Lg} {v : Nat → Value} (h : Led w p base L v) (hb : RtB L.r) (x : S) (hx : 0 ≤ x.size ∧ x.size ≤ 1200) (ht : 0 ≤ x.time ∧ x.time ≤ 1099511627776) (hf : x.size ≤ L.r.flight) :
    Calls Try.prog 37 #[.pointer (some ⟨p, 0, none⟩), argS x] w fun e w' => e = .returned (.tuple #[]) ∧ Led w' p base { L with r := moreR x L.r } v ∧ Kp p w w' := by
  have hbl := blk_lt h.blk
  have B := (Below.refl w.heap.size w).alloc (Nat.le_refl _) (.cells #[.int .u64 x.pn, .int .u64 x.time, .int .u64 x.size, .bool x.asks, .slice x.fa x.fn x.fc] 30)
  have hk := sent_cells (w := w) x 30
  have hL := h.below B
  obtain ⟨w1, hw1⟩ : ∃ w1 : World, w1 = w.alloc (.cells #[.int .u64 x.pn, .int .u64 x.time, .int .u64 x.size, .bool x.asks, .slice x.fa x.fn x.fc] 30) := ⟨_, rfl⟩
  rw [← hw1] at hk hL B
  have HW1 := Lib.hid hw1
  obtain ⟨w0, w0'⟩ := hb.wi
  obtain ⟨f0, f1⟩ := hb.fl
  obtain ⟨l0, l1⟩ := hb.li
  obtain ⟨be0, be1⟩ := hb.be
  obtain ⟨x0, x1⟩ := hx
  obtain ⟨t0, t1⟩ := ht
  obtain ⟨k0, k1, k2, k3, k4, k5, k6⟩ := rate_cells hL
  have j1 := blk_cell hk 1
  have j2 := blk_cell hk 2
  have z5 := blk_frozen hL.blk 5
  have z3 := blk_frozen hL.blk 3
  have HKX := Lib.hid hk
  have HL := Lib.hid hL
  have HB := Lib.hid (Kp.of_below (p := p) B)
  have hne : p ≠ w.heap.size := by omega
  have hne2 : w.heap.size ≠ p := by omega
  have hws : IntKind.u64.wrap (L.r.flight - x.size) = L.r.flight - x.size := by rw [IntKind.wrap_u64]; omega
  clear hw1 hk hL B h
  go_enter Try.func37, Try.ntmps37
  go_upto_region 1 with fail
  rw [← HW1.out]
  go_region
  have S2 := led_drew (HL.out.put (L' := { L with r := { L.r with flight := L.r.flight - x.size } }) 5 (.int .u64 (L.r.flight - x.size)) rfl (fun _ _ => rfl))
  have K2 := kp_drew (HB.out.set 5 (.int .u64 (L.r.flight - x.size)))
  have hk2 := blk_drew ((Below.heap_setCell w1 ⟨p, 5, none⟩ (.int .u64 (L.r.flight - x.size)) w.heap.size hne2).trans HKX.out)
  obtain ⟨w2, hw2⟩ : ∃ w2, (w1.setCell ⟨p, 5, none⟩ (.int .u64 (L.r.flight - x.size))).drew = w2 := ⟨_, rfl⟩
  rw [hw2] at S2 K2 hk2 ⊢
  clear k0 k1 k2 k3 k4 k5 k6 j1 j2 z5 z3 hw2
  obtain ⟨k0, k1, k2, k3, k4, k5, k6⟩ := rate_cells S2
  have j1 := blk_cell hk2 1
  have j2 := blk_cell hk2 2
  have z3 := blk_frozen S2.blk 3
  simp only at k0 k1 k2 k3 k4 k5 k6
  have HL2 := Lib.hid S2
  have HK2 := Lib.hid K2
  clear S2 K2 hk2
  by_cases hc : x.time + 1 ≤ L.r.began
  · go_wp2_with fail
    go_quiet (fail)
    go_wp2_with fail
    go_end0
    refine ⟨rfl, ?_, HK2.out.drewN _⟩
    unfold moreR
    rw [if_pos hc]
    exact led_drewN HL2.out _
  · by_cases hw : L.r.window < L.r.limit
    · have hw1 : IntKind.u64.wrap (L.r.window + x.size) = L.r.window + x.size := by rw [IntKind.wrap_u64]; omega
      go_wp2_with fail
      go_quiet (fail)
      go_wp2_with fail
      go_quiet (fail)
      go_wp2_with fail
      go_region
      go_wp2_with fail
      go_end0
      refine ⟨rfl, ?_, (HK2.out.drewN _).set 3 _⟩
      unfold moreR
      rw [if_neg (by omega), if_pos hw]
      exact ((led_drewN HL2.out _).put (L' := { L with r := { L.r with flight := L.r.flight - x.size, window := L.r.window + x.size } }) 3 (.int .u64 (L.r.window + x.size)) rfl (fun _ _ => rfl))
    · have hm : IntKind.u64.wrap (1200 * x.size) = 1200 * x.size := by rw [IntKind.wrap_u64]; omega
      have hd0 : 0 ≤ 1200 * x.size / L.r.window := Int.ediv_nonneg (by omega) (by omega)
      have hd1 : 1200 * x.size / L.r.window ≤ 1440000 := Int.le_trans (Int.ediv_le_self _ (by omega)) (by omega)
      have hd : (1200 * x.size).tdiv L.r.window = 1200 * x.size / L.r.window := Int.tdiv_eq_ediv_of_nonneg (by omega)
      have hwd : IntKind.u64.wrap (1200 * x.size / L.r.window) = 1200 * x.size / L.r.window := by rw [IntKind.wrap_u64]; omega
      have hwa : IntKind.u64.wrap (L.r.window + 1200 * x.size / L.r.window) = L.r.window + 1200 * x.size / L.r.window := by rw [IntKind.wrap_u64]; omega
      have hnz : ¬ L.r.window = 0 := by omega
      go_wp2_with fail
      go_quiet (fail)
      go_wp2_with fail
      go_quiet (fail)
      go_wp2_with fail
      go_region
      go_wp2_with fail
      go_end0
      refine ⟨rfl, ?_, (HK2.out.drewN _).set 3 _⟩
      unfold moreR
      rw [if_neg (by omega), if_neg (by omega)]
      exact ((led_drewN HL2.out _).put (L' := { L with r := { L.r with flight := L.r.flight - x.size, window := L.r.window + 1200 * x.size / L.r.window } }) 3 (.int .u64 (L.r.window + 1200 * x.size / L.r.window)) rfl (fun _ _ => rfl))
set_option maxHeartbeats 2000000 in
theorem less_calls {w : World} {p base : Nat} {L : Lg} {v : Nat → Value} (h : Led w p base L v) (hb : RtB L.r) (x : S) (hx : 0 ≤ x.size ∧ x.size ≤ 1200) (ht : 0 ≤ x.time ∧ x.time ≤ 1099511627776) (hf : x.size ≤ L.r.flight) (now : Int) (hn : 0 ≤ now ∧ now ≤ 1099511627776) :
    Calls Try.prog 46 #[.pointer (some ⟨p, 0, none⟩), argS x, .int .u64 now] w fun e w' => e = .returned (.tuple #[]) ∧ Led w' p base { L with r := lessR x now L.r } v ∧ Kp p w w' := by
  have hbl := blk_lt h.blk
  have B := (Below.refl w.heap.size w).alloc (Nat.le_refl _) (.cells #[.int .u64 x.pn, .int .u64 x.time, .int .u64 x.size, .bool x.asks, .slice x.fa x.fn x.fc] 30)
  have hk := sent_cells (w := w) x 30
  have hL := h.below B
  obtain ⟨w1, hw1⟩ : ∃ w1 : World, w1 = w.alloc (.cells #[.int .u64 x.pn, .int .u64 x.time, .int .u64 x.size, .bool x.asks, .slice x.fa x.fn x.fc] 30) := ⟨_, rfl⟩
  rw [← hw1] at hk hL B
  have HW1 := Lib.hid hw1
  obtain ⟨w0, w0'⟩ := hb.wi
  obtain ⟨f0, f1⟩ := hb.fl
  obtain ⟨be0, be1⟩ := hb.be
  obtain ⟨x0, x1⟩ := hx
  obtain ⟨t0, t1⟩ := ht
  obtain ⟨n0, n1⟩ := hn
  obtain ⟨k0, k1, k2, k3, k4, k5, k6⟩ := rate_cells hL
  have j1 := blk_cell hk 1
  have j2 := blk_cell hk 2
  have z5 := blk_frozen hL.blk 5
  have HKX := Lib.hid hk
  have HL := Lib.hid hL
  have HB := Lib.hid (Kp.of_below (p := p) B)
  have hne : p ≠ w.heap.size := by omega
  have hne2 : w.heap.size ≠ p := by omega
  have hws : IntKind.u64.wrap (L.r.flight - x.size) = L.r.flight - x.size := by rw [IntKind.wrap_u64]; omega
  clear hw1 hk hL B h
  go_enter Try.func46, Try.ntmps46
  go_upto_region 1 with fail
  rw [← HW1.out]
  go_region
  have S2 := led_drew (HL.out.put (L' := { L with r := { L.r with flight := L.r.flight - x.size } }) 5 (.int .u64 (L.r.flight - x.size)) rfl (fun _ _ => rfl))
  have K2 := kp_drew (HB.out.set 5 (.int .u64 (L.r.flight - x.size)))
  have hk2 := blk_drew ((Below.heap_setCell w1 ⟨p, 5, none⟩ (.int .u64 (L.r.flight - x.size)) w.heap.size hne2).trans HKX.out)
  obtain ⟨w2, hw2⟩ : ∃ w2, (w1.setCell ⟨p, 5, none⟩ (.int .u64 (L.r.flight - x.size))).drew = w2 := ⟨_, rfl⟩
  rw [hw2] at S2 K2 hk2 ⊢
  clear k0 k1 k2 k3 k4 k5 k6 j1 j2 z5 hw2
  obtain ⟨k0, k1, k2, k3, k4, k5, k6⟩ := rate_cells S2
  have j1 := blk_cell hk2 1
  have z3 := blk_frozen S2.blk 3
  have z4 := blk_frozen S2.blk 4
  have z6 := blk_frozen S2.blk 6
  simp only at k0 k1 k2 k3 k4 k5 k6
  have HL2 := Lib.hid S2
  have HK2 := Lib.hid K2
  clear S2 K2 hk2
  by_cases hc : x.time + 1 > L.r.began
  · by_cases hm : L.r.window / 2 < 2400
    · go_wp2_with fail
      go_quiet (fail)
      go_wp2_with fail
      go_end0
      refine ⟨rfl, ?_, (((HK2.out.drewN _).set 6 _).set 3 _).set 4 _⟩
      unfold lessR mx
      rw [if_pos hc, if_pos hm]
      exact (((led_drewN HL2.out _).put (L' := { L with r := { L.r with flight := L.r.flight - x.size, began := now + 1 } }) 6 (.int .u64 (now + 1)) rfl (fun _ _ => rfl)).put (L' := { L with r := { L.r with flight := L.r.flight - x.size, began := now + 1, window := 2400 } }) 3 (.int .u64 2400) rfl (fun _ _ => rfl)).put (L' := { L with r := { L.r with flight := L.r.flight - x.size, began := now + 1, window := 2400, limit := 2400 } }) 4 (.int .u64 2400) rfl (fun _ _ => rfl)
    · go_wp2_with fail
      go_quiet (fail)
      go_wp2_with fail
      go_end0
      refine ⟨rfl, ?_, (((HK2.out.drewN _).set 6 _).set 3 _).set 4 _⟩
      unfold lessR mx
      rw [if_pos hc, if_neg (by omega)]
      exact (((led_drewN HL2.out _).put (L' := { L with r := { L.r with flight := L.r.flight - x.size, began := now + 1 } }) 6 (.int .u64 (now + 1)) rfl (fun _ _ => rfl)).put (L' := { L with r := { L.r with flight := L.r.flight - x.size, began := now + 1, window := L.r.window / 2 } }) 3 (.int .u64 (L.r.window / 2)) rfl (fun _ _ => rfl)).put (L' := { L with r := { L.r with flight := L.r.flight - x.size, began := now + 1, window := L.r.window / 2, limit := L.r.window / 2 } }) 4 (.int .u64 (L.r.window / 2)) rfl (fun _ _ => rfl)
  · go_wp2_with fail
    go_quiet (fail)
    go_wp2_with fail
    go_end0
    refine ⟨rfl, ?_, HK2.out.drewN _⟩
    unfold lessR
    rw [if_neg (by omega)]
    exact led_drewN HL2.out _

set_option maxHeartbeats 2000000 in
theorem time_calls {w : World} {p base : Nat} {L : Lg} {v : Nat → Value} (h : Led w p base L v) (hb : RtB L.r) (n : Int) (hn : 0 ≤ n ∧ n ≤ 1099511627776) :
    Calls Try.prog 36 #[.pointer (some ⟨p, 0, none⟩), .int .u64 n] w fun e w' => e = .returned (.tuple #[]) ∧ Led w' p base { L with r := timeR n L.r } v ∧ Kp p w w' := by
  obtain ⟨s0, s1⟩ := hb.sm
  obtain ⟨v0, v1⟩ := hb.va
  obtain ⟨l0, l1⟩ := hb.la
  obtain ⟨n0, n1⟩ := hn
  obtain ⟨m, hm⟩ : ∃ m, mx n 1 = m := ⟨_, rfl⟩
  have hm1 : 1 ≤ m ∧ m ≤ 1099511627776 := by subst hm; unfold mx; split <;> omega
  obtain ⟨m0, m1⟩ := hm1
  obtain ⟨k0, k1, k2, k3, k4, k5, k6⟩ := rate_cells h
  have z2 := blk_frozen h.blk 2
  have HL := Lib.hid h
  have key : ∀ m', mx n 1 = m' → m' = m := fun m' e => e.symm.trans hm
  have HM := Lib.hid hm
  clear h hm key
  have S2 := HL.out.put (L' := { L with r := { L.r with latest := m } }) 2 (.int .u64 m) rfl (fun _ _ => rfl)
  have K2 := (Kp.refl p w).set 2 (.int .u64 m)
  have HS2 := Lib.hid S2
  have HK2 := Lib.hid K2
  clear S2 K2
  go_enter Try.func36, Try.ntmps36
  by_cases hn1 : n < 1
  · have hmm : m = 1 := by have := HM.out; unfold mx at this; rw [if_pos hn1] at this; exact this.symm
    subst hmm
    by_cases hf : L.r.latest = 0
    · have tf : (L.r.latest == 0) = true := by simp [hf]
      have HF := Lib.hid hf
      clear hf
      go_upto_region 3 with fail
      obtain ⟨w2, hw2⟩ : ∃ w2, (w.setCell ⟨p, 2, none⟩ (.int .u64 1)) = w2 := ⟨_, rfl⟩
      rw [hw2] at HS2 HK2 ⊢
      clear k0 k1 k2 k3 k4 k5 k6 z2 hw2
      obtain ⟨k0, k1, k2, k3, k4, k5, k6⟩ := rate_cells HS2.out
      have z0 := blk_frozen HS2.out.blk 0
      have z1 := blk_frozen HS2.out.blk 1
      simp only at k0 k1 k2 k3 k4 k5 k6
      go_region
      go_wp2_with fail
      refine bodyPost_ret (results_none rfl _ _ _) rfl ?_
      refine ⟨rfl, ?_, kp_drew ((HK2.out.set 0 _).set 1 _)⟩
      have e : timeR n L.r = { L.r with latest := 1, smooth := 1, vary := 1 / 2 } := by unfold timeR; rw [if_pos HF.out, HM.out]
      rw [e]
      exact led_drew ((HS2.out.put (L' := { L with r := { L.r with latest := 1, smooth := 1 } }) 0 (.int .u64 1) rfl (fun _ _ => rfl)).put (L' := { L with r := { L.r with latest := 1, smooth := 1, vary := 1 / 2 } }) 1 (.int .u64 (1 / 2)) rfl (fun _ _ => rfl))
    · have tf : (L.r.latest == 0) = false := by simp [hf]
      have HF := Lib.hid hf
      clear hf
      go_upto_region 4 with fail
      obtain ⟨w2, hw2⟩ : ∃ w2, (w.setCell ⟨p, 2, none⟩ (.int .u64 1)) = w2 := ⟨_, rfl⟩
      rw [hw2] at HS2 HK2 ⊢
      clear k0 k1 k2 k3 k4 k5 k6 z2 hw2
      obtain ⟨k0, k1, k2, k3, k4, k5, k6⟩ := rate_cells HS2.out
      have z0 := blk_frozen HS2.out.blk 0
      have z1 := blk_frozen HS2.out.blk 1
      simp only at k0 k1 k2 k3 k4 k5 k6
      by_cases hsm : L.r.smooth < 1
      · obtain ⟨d, hd⟩ : ∃ d, 1 - L.r.smooth = d := ⟨_, rfl⟩
        have e : timeR n L.r = { L.r with latest := 1, vary := (3 * L.r.vary + d) / 4, smooth := (7 * L.r.smooth + 1) / 8 } := by
          unfold timeR
          rw [if_neg HF.out, HM.out, ← hd]
          unfold mx mn
          simp only [hsm, if_true]; (try rw [if_neg (show ¬ (1 < L.r.smooth) by omega)])
        have HE := Lib.hid e
        have hdb : 0 ≤ d ∧ d ≤ 17592186044416 := by omega
        obtain ⟨d0, d1⟩ := hdb
        have HD := Lib.hid hd
        have hwd : IntKind.u64.wrap (1 - L.r.smooth) = d := by rw [IntKind.wrap_u64]; omega
        clear e hd
        go_quiet (fail)
        go_upto_region 5 with fail
        go_upto_region 6 with fail
        have S3 := (led_drewN HS2.out nq).put (L' := { L with r := { L.r with latest := 1, vary := (3 * L.r.vary + d) / 4 } }) 1 (.int .u64 ((3 * L.r.vary + d) / 4)) rfl (fun _ _ => rfl)
        have K3 := (HK2.out.drewN nq).set 1 (.int .u64 ((3 * L.r.vary + d) / 4))
        have HS3 := Lib.hid S3
        have HK3 := Lib.hid K3
        clear S3 K3
        generalize ((w2.drewN nq).setCell ⟨p, 1, none⟩ (.int .u64 ((3 * L.r.vary + d) / 4))) = w3 at HS3 HK3 ⊢
        clear k0 k1 k2 k3 k4 k5 k6 z0 z1 HS2 HK2
        obtain ⟨k0, k1, k2, k3, k4, k5, k6⟩ := rate_cells HS3.out
        have z0 := blk_frozen HS3.out.blk 0
        simp only at k0 k1 k2 k3 k4 k5 k6
        go_region
        go_wp2_with fail
        go_end0
        rw [HE.out]
        exact ⟨rfl, led_drew (HS3.out.put (L' := { L with r := { L.r with latest := 1, vary := (3 * L.r.vary + d) / 4, smooth := (7 * L.r.smooth + 1) / 8 } }) 0 (.int .u64 ((7 * L.r.smooth + 1) / 8)) rfl (fun _ _ => rfl)), kp_drew (HK3.out.set 0 _)⟩
      · obtain ⟨d, hd⟩ : ∃ d, L.r.smooth - 1 = d := ⟨_, rfl⟩
        have e : timeR n L.r = { L.r with latest := 1, vary := (3 * L.r.vary + d) / 4, smooth := (7 * L.r.smooth + 1) / 8 } := by
          unfold timeR
          rw [if_neg HF.out, HM.out, ← hd]
          unfold mx mn
          simp only [if_neg hsm]; (try (by_cases q : 1 < L.r.smooth <;> simp [q] <;> omega))
        have HE := Lib.hid e
        have hdb : 0 ≤ d ∧ d ≤ 17592186044416 := by omega
        obtain ⟨d0, d1⟩ := hdb
        have HD := Lib.hid hd
        have hwd : IntKind.u64.wrap (L.r.smooth - 1) = d := by rw [IntKind.wrap_u64]; omega
        clear e hd
        go_quiet (fail)
        go_upto_region 5 with fail
        go_upto_region 6 with fail
        have hx : (if 1 < L.r.smooth then 1 else L.r.smooth) = 1 := by split <;> omega
        rw [hx, HD.out]
        have S3 := (led_drewN HS2.out nq).put (L' := { L with r := { L.r with latest := 1, vary := (3 * L.r.vary + d) / 4 } }) 1 (.int .u64 ((3 * L.r.vary + d) / 4)) rfl (fun _ _ => rfl)
        have K3 := (HK2.out.drewN nq).set 1 (.int .u64 ((3 * L.r.vary + d) / 4))
        have HS3 := Lib.hid S3
        have HK3 := Lib.hid K3
        clear S3 K3
        generalize ((w2.drewN nq).setCell ⟨p, 1, none⟩ (.int .u64 ((3 * L.r.vary + d) / 4))) = w3 at HS3 HK3 ⊢
        clear k0 k1 k2 k3 k4 k5 k6 z0 z1 HS2 HK2
        obtain ⟨k0, k1, k2, k3, k4, k5, k6⟩ := rate_cells HS3.out
        have z0 := blk_frozen HS3.out.blk 0
        simp only at k0 k1 k2 k3 k4 k5 k6
        go_region
        go_wp2_with fail
        go_end0
        rw [HE.out]
        exact ⟨rfl, led_drew (HS3.out.put (L' := { L with r := { L.r with latest := 1, vary := (3 * L.r.vary + d) / 4, smooth := (7 * L.r.smooth + 1) / 8 } }) 0 (.int .u64 ((7 * L.r.smooth + 1) / 8)) rfl (fun _ _ => rfl)), kp_drew (HK3.out.set 0 _)⟩
  · have hmm : m = n := by have := HM.out; unfold mx at this; rw [if_neg hn1] at this; exact this.symm
    subst hmm
    by_cases hf : L.r.latest = 0
    · have tf : (L.r.latest == 0) = true := by simp [hf]
      have HF := Lib.hid hf
      clear hf
      go_upto_region 3 with fail
      obtain ⟨w2, hw2⟩ : ∃ w2, (w.setCell ⟨p, 2, none⟩ (.int .u64 m)) = w2 := ⟨_, rfl⟩
      rw [hw2] at HS2 HK2 ⊢
      clear k0 k1 k2 k3 k4 k5 k6 z2 hw2
      obtain ⟨k0, k1, k2, k3, k4, k5, k6⟩ := rate_cells HS2.out
      have z0 := blk_frozen HS2.out.blk 0
      have z1 := blk_frozen HS2.out.blk 1
      simp only at k0 k1 k2 k3 k4 k5 k6
      go_region
      go_wp2_with fail
      refine bodyPost_ret (results_none rfl _ _ _) rfl ?_
      refine ⟨rfl, ?_, kp_drew ((HK2.out.set 0 _).set 1 _)⟩
      have e : timeR m L.r = { L.r with latest := m, smooth := m, vary := m / 2 } := by unfold timeR; rw [if_pos HF.out, HM.out]
      rw [e]
      exact led_drew ((HS2.out.put (L' := { L with r := { L.r with latest := m, smooth := m } }) 0 (.int .u64 m) rfl (fun _ _ => rfl)).put (L' := { L with r := { L.r with latest := m, smooth := m, vary := m / 2 } }) 1 (.int .u64 (m / 2)) rfl (fun _ _ => rfl))
    · have tf : (L.r.latest == 0) = false := by simp [hf]
      have HF := Lib.hid hf
      clear hf
      go_upto_region 4 with fail
      obtain ⟨w2, hw2⟩ : ∃ w2, (w.setCell ⟨p, 2, none⟩ (.int .u64 m)) = w2 := ⟨_, rfl⟩
      rw [hw2] at HS2 HK2 ⊢
      clear k0 k1 k2 k3 k4 k5 k6 z2 hw2
      obtain ⟨k0, k1, k2, k3, k4, k5, k6⟩ := rate_cells HS2.out
      have z0 := blk_frozen HS2.out.blk 0
      have z1 := blk_frozen HS2.out.blk 1
      simp only at k0 k1 k2 k3 k4 k5 k6
      by_cases hsm : L.r.smooth < m
      · obtain ⟨d, hd⟩ : ∃ d, m - L.r.smooth = d := ⟨_, rfl⟩
        have e : timeR m L.r = { L.r with latest := m, vary := (3 * L.r.vary + d) / 4, smooth := (7 * L.r.smooth + m) / 8 } := by
          unfold timeR
          rw [if_neg HF.out, HM.out, ← hd]
          unfold mx mn
          simp only [hsm, if_true]; (try rw [if_neg (show ¬ (m < L.r.smooth) by omega)])
        have HE := Lib.hid e
        have hdb : 0 ≤ d ∧ d ≤ 17592186044416 := by omega
        obtain ⟨d0, d1⟩ := hdb
        have HD := Lib.hid hd
        have hwd : IntKind.u64.wrap (m - L.r.smooth) = d := by rw [IntKind.wrap_u64]; omega
        clear e hd
        go_quiet (fail)
        go_upto_region 5 with fail
        go_upto_region 6 with fail
        have S3 := (led_drewN HS2.out nq).put (L' := { L with r := { L.r with latest := m, vary := (3 * L.r.vary + d) / 4 } }) 1 (.int .u64 ((3 * L.r.vary + d) / 4)) rfl (fun _ _ => rfl)
        have K3 := (HK2.out.drewN nq).set 1 (.int .u64 ((3 * L.r.vary + d) / 4))
        have HS3 := Lib.hid S3
        have HK3 := Lib.hid K3
        clear S3 K3
        generalize ((w2.drewN nq).setCell ⟨p, 1, none⟩ (.int .u64 ((3 * L.r.vary + d) / 4))) = w3 at HS3 HK3 ⊢
        clear k0 k1 k2 k3 k4 k5 k6 z0 z1 HS2 HK2
        obtain ⟨k0, k1, k2, k3, k4, k5, k6⟩ := rate_cells HS3.out
        have z0 := blk_frozen HS3.out.blk 0
        simp only at k0 k1 k2 k3 k4 k5 k6
        go_region
        go_wp2_with fail
        go_end0
        rw [HE.out]
        exact ⟨rfl, led_drew (HS3.out.put (L' := { L with r := { L.r with latest := m, vary := (3 * L.r.vary + d) / 4, smooth := (7 * L.r.smooth + m) / 8 } }) 0 (.int .u64 ((7 * L.r.smooth + m) / 8)) rfl (fun _ _ => rfl)), kp_drew (HK3.out.set 0 _)⟩
      · obtain ⟨d, hd⟩ : ∃ d, L.r.smooth - m = d := ⟨_, rfl⟩
        have e : timeR m L.r = { L.r with latest := m, vary := (3 * L.r.vary + d) / 4, smooth := (7 * L.r.smooth + m) / 8 } := by
          unfold timeR
          rw [if_neg HF.out, HM.out, ← hd]
          unfold mx mn
          simp only [if_neg hsm]; (try (by_cases q : m < L.r.smooth <;> simp [q] <;> omega))
        have HE := Lib.hid e
        have hdb : 0 ≤ d ∧ d ≤ 17592186044416 := by omega
        obtain ⟨d0, d1⟩ := hdb
        have HD := Lib.hid hd
        have hwd : IntKind.u64.wrap (L.r.smooth - m) = d := by rw [IntKind.wrap_u64]; omega
        clear e hd
        go_quiet (fail)
        go_upto_region 5 with fail
        go_upto_region 6 with fail
        have hx : (if m < L.r.smooth then m else L.r.smooth) = m := by split <;> omega
        rw [hx, HD.out]
        have S3 := (led_drewN HS2.out nq).put (L' := { L with r := { L.r with latest := m, vary := (3 * L.r.vary + d) / 4 } }) 1 (.int .u64 ((3 * L.r.vary + d) / 4)) rfl (fun _ _ => rfl)
        have K3 := (HK2.out.drewN nq).set 1 (.int .u64 ((3 * L.r.vary + d) / 4))
        have HS3 := Lib.hid S3
        have HK3 := Lib.hid K3
        clear S3 K3
        generalize ((w2.drewN nq).setCell ⟨p, 1, none⟩ (.int .u64 ((3 * L.r.vary + d) / 4))) = w3 at HS3 HK3 ⊢
        clear k0 k1 k2 k3 k4 k5 k6 z0 z1 HS2 HK2
        obtain ⟨k0, k1, k2, k3, k4, k5, k6⟩ := rate_cells HS3.out
        have z0 := blk_frozen HS3.out.blk 0
        simp only at k0 k1 k2 k3 k4 k5 k6
        go_region
        go_wp2_with fail
        go_end0
        rw [HE.out]
        exact ⟨rfl, led_drew (HS3.out.put (L' := { L with r := { L.r with latest := m, vary := (3 * L.r.vary + d) / 4, smooth := (7 * L.r.smooth + m) / 8 } }) 0 (.int .u64 ((7 * L.r.smooth + m) / 8)) rfl (fun _ _ => rfl)), kp_drew (HK3.out.set 0 _)⟩
end Go.Proofs.Ytgdboikoejodpaa.Rate
