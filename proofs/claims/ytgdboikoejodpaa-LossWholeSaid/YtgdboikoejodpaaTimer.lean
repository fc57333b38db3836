/- Timer: the loop over the spaces. -/
import Derived.Test.YtgdboikoejodpaaRd
namespace Go.Proofs.Ytgdboikoejodpaa.Timer
open Go Go.RowKit Go.Proofs.YtgdboikoejodpaaW.PrintWords Go.Proofs.YtgdboikoejodpaaW.PrintLast Go.Proofs.YtgdboikoejodpaaW.PrintMore Go.Proofs.Ytgdboikoejodpaa.Keep Go.Proofs.Ytgdboikoejodpaa.Led Go.Proofs.Ytgdboikoejodpaa.Rate Go.Proofs.Ytgdboikoejodpaa.Rd
attribute [local go_sem] max2_int min2_int max_two min_two max_three min_three max_four min_four
set_option linter.unusedVariables false

structure LgB (L : Lg) : Prop where
  r : RtB L.r
  next : ∀ i, i < 3 → 0 ≤ (L.sp i).next ∧ (L.sp i).next ≤ 4611686018427387904
  acked : ∀ i, i < 3 → 0 ≤ (L.sp i).acked ∧ (L.sp i).acked ≤ 4611686018427387904
  timeout : ∀ i, i < 3 → 0 ≤ (L.sp i).timeout ∧ (L.sp i).timeout ≤ 1152921504606846976
  tries : 0 ≤ L.tries ∧ L.tries ≤ 1152921504606846976
  last : 0 ≤ L.last ∧ L.last ≤ 1099511627776
  list : ∀ i, i < 3 → ∀ x ∈ (L.sp i).list, 0 ≤ x.pn ∧ x.pn < 4611686018427387904 ∧ 0 ≤ x.time ∧ x.time ≤ 1099511627776 ∧ 0 ≤ x.size ∧ x.size ≤ 1200
  many : ∀ i, i < 3 → (L.sp i).list.length ≤ 1024

def tmAt (L : Lg) : Nat → Int
  | 0 => 0
  | k + 1 => if 0 < (L.sp k).timeout ∧ (tmAt L k = 0 ∨ (L.sp k).timeout < tmAt L k) then (L.sp k).timeout else tmAt L k
def tmAny (L : Lg) : Nat → Bool
  | 0 => false
  | k + 1 => tmAny L k || decide (0 < (L.sp k).list.length)
def timerL (L : Lg) : Int × Bool :=
  if 0 < tmAt L 3 ∨ tmAny L 3 = false then (tmAt L 3, decide (0 < tmAt L 3))
  else (L.last + (L.r.smooth + mx (4 * L.r.vary) 1) * 2 ^ (mn L.tries 16).toNat, true)
theorem tmAt_bound {L : Lg} (h : LgB L) (k : Nat) (hk : k ≤ 3) : 0 ≤ tmAt L k ∧ tmAt L k ≤ 1152921504606846976 := by
  induction k with
  | zero => unfold tmAt; omega
  | succ k ih =>
    have := ih (by omega)
    have := h.timeout k (by omega)
    unfold tmAt
    split <;> omega

theorem ret_pair {a b : Int} (h : a = b) : Ending.returned (.tuple #[.int .u64 a, .bool true]) = .returned (.tuple #[.int .u64 b, .bool true]) := by rw [h]
theorem wrap2 {a y P : Int} (ha : 0 ≤ a ∧ a ≤ 1099511627776) (hy : 0 ≤ y ∧ y ≤ 140737488355328) (hP : 0 ≤ P ∧ P ≤ 65536) : IntKind.u64.wrap (a + IntKind.u64.wrap (y * P)) = a + y * P := by
  have h1 : y * P ≤ 140737488355328 * 65536 := Int.mul_le_mul hy.2 hP.2 hP.1 (by decide)
  have h0 : 0 ≤ y * P := Int.mul_nonneg hy.1 hP.1
  generalize y * P = z at h0 h1 ⊢
  rw [IntKind.wrap_u64, IntKind.wrap_u64]
  omega
theorem pw2 {t : Int} (h : t ≤ 16) : 0 ≤ (2 : Int) ^ t.toNat ∧ (2 : Int) ^ t.toNat ≤ 65536 := by
  have h1 : (2 : Nat) ^ t.toNat ≤ 2 ^ 16 := Nat.pow_le_pow_right (by decide) (by omega)
  have h2 : (((2 : Nat) ^ t.toNat : Nat) : Int) = (2 : Int) ^ t.toNat := by simp
  rw [← h2]
  exact ⟨Int.natCast_nonneg _, Int.ofNat_le.mpr h1⟩

set_option maxHeartbeats 2000000 in
theorem timer_calls {w : World} {p base : Nat} {L : Lg} {v : Nat → Value} (h : Led w p base L v) (hb : LgB L) :
    Calls Try.prog 16 #[.pointer (some ⟨p, 0, none⟩)] w fun e w' => e = .returned (.tuple #[.int .u64 (timerL L).1, .bool (timerL L).2]) ∧ ∃ n, w' = w.drewN n := by
  have HL := Lib.hid h
  have HB := Lib.hid hb
  clear h hb
  go_enter Try.func16, Try.ntmps16
  go_wp2_with fail
  go_loop [4, 5, 10] (fun a y i => ∃ k : Nat, k ≤ 3 ∧ i = .int .i64 (k : Int) ∧ a = .int .u64 (tmAt L k) ∧ y = .bool (tmAny L k)) (fun _ _ i => 3 - (intOf i).toNat)
  case atStart => exact ⟨0, by omega, rfl, rfl, rfl⟩
  case round =>
    obtain ⟨k, hk, rfl, rfl, rfl⟩ := hrel
    obtain ⟨t0, t1⟩ := tmAt_bound HB.out k hk
    by_cases hk3 : k = 3
    · subst hk3
      obtain ⟨a, ha⟩ : ∃ a, tmAt L 3 = a := ⟨_, rfl⟩
      obtain ⟨y, hy⟩ : ∃ y, tmAny L 3 = y := ⟨_, rfl⟩
      rw [ha] at t0 t1 ⊢
      rw [hy]
      by_cases h1 : 0 < a
      · have e : timerL L = (a, true) := by unfold timerL; rw [ha, if_pos (.inl h1)]; simp [h1]
        clear HL HB
        go_wp2_with fail
        all_goals go_ret2
        all_goals exact ⟨rfl, 0, (World.drewN_zero w).symm⟩
      · have e0 : a = 0 := by omega
        subst e0
        cases y with
        | false =>
          have e : timerL L = (0, false) := by unfold timerL; rw [hy, if_pos (.inr rfl), ha]; rfl
          clear HL HB
          go_wp2_with fail
          all_goals go_ret2
          all_goals exact ⟨rfl, 0, (World.drewN_zero w).symm⟩
        | true =>
          have e : timerL L = (L.last + (L.r.smooth + mx (4 * L.r.vary) 1) * 2 ^ (mn L.tries 16).toNat, true) := by unfold timerL; rw [hy, ha]; rfl
          obtain ⟨k0, k1, -, -, -, -, -⟩ := rate_cells HL.out
          obtain ⟨k2, k3⟩ := end_cells HL.out
          obtain ⟨a0, a1⟩ := HB.out.r.sm
          obtain ⟨b0, b1⟩ := HB.out.r.va
          obtain ⟨c0, c1⟩ := HB.out.tries
          obtain ⟨d0, d1⟩ := HB.out.last
          clear HL HB
          go_wp2_with fail
          go_quiet (fail)
          all_goals go_wp2_with fail
          all_goals go_ret2
          all_goals refine ⟨ret_pair ((wrap2 ⟨d0, d1⟩ ?_ ?_).trans ?_), nq, rfl⟩
          all_goals first | omega | (apply pw2; omega) | (clear e; unfold mx mn; (repeat' split) <;> first | rfl | (exfalso; omega) | (rw [show L.tries = 16 by omega]; rfl))
    · have hkk : k < 3 := by omega
      obtain ⟨k0, -, -, k3⟩ := sp_cells HL.out k hkk
      obtain ⟨A5, c5, e5⟩ : ∃ A c, v k = Value.slice A (L.sp k).list.length c := by
        obtain ⟨A, c, e, -, -⟩ := Kd.R_reads (HL.out.row k hkk)
        exact ⟨A, c, e⟩
      obtain ⟨u0, u1⟩ := HB.out.timeout k hkk
      have hm := HB.out.many k hkk
      rw [e5] at k0
      obtain ⟨n, hn⟩ : ∃ n, (L.sp k).list.length = n := ⟨_, rfl⟩
      obtain ⟨t, ht⟩ : ∃ t, (L.sp k).timeout = t := ⟨_, rfl⟩
      obtain ⟨a, ha⟩ : ∃ a, tmAt L k = a := ⟨_, rfl⟩
      obtain ⟨y, hy⟩ : ∃ y, tmAny L k = y := ⟨_, rfl⟩
      have ey : tmAny L (k + 1) = (y || decide (0 < n)) := by unfold tmAny; rw [hy, hn]
      have ea : tmAt L (k + 1) = if 0 < t ∧ (a = 0 ∨ t < a) then t else a := by rw [tmAt, ht, ha]
      rw [hn] at k0 hm
      rw [ht] at k3 u0 u1
      rw [ha] at t0 t1 ⊢
      rw [hy]
      clear hn ht ha hy
      have HY := Lib.hid ey
      have HA := Lib.hid ea
      clear ey ea e5
      by_cases ht0 : 0 < t
      · by_cases ha0 : a = 0
        · subst ha0
          · have e1 : (if 0 < t ∧ ((0 : Int) = 0 ∨ t < 0) then t else 0) = t := by rw [if_pos ⟨ht0, .inl rfl⟩]
            rw [e1] at HA
            cases y with
            | true =>
              go_wp2_with fail
              exact ⟨⟨k + 1, by omega, by simp, by rw [HA.out], by rw [HY.out]; rfl⟩, by simp [intOf]; omega⟩
            | false =>
              by_cases hn0 : 0 < n
              · go_wp2_with fail
                exact ⟨⟨k + 1, by omega, by simp, by rw [HA.out], by rw [HY.out]; simp [hn0]⟩, by simp [intOf]; omega⟩
              · go_wp2_with fail
                exact ⟨⟨k + 1, by omega, by simp, by rw [HA.out], by rw [HY.out]; simp [hn0]⟩, by simp [intOf]; omega⟩
        · by_cases hta : t < a
          · have e1 : (if 0 < t ∧ (a = 0 ∨ t < a) then t else a) = t := by rw [if_pos ⟨ht0, .inr hta⟩]
            rw [e1] at HA
            cases y with
            | true =>
              go_wp2_with fail
              exact ⟨⟨k + 1, by omega, by simp, by rw [HA.out], by rw [HY.out]; rfl⟩, by simp [intOf]; omega⟩
            | false =>
              by_cases hn0 : 0 < n
              · go_wp2_with fail
                exact ⟨⟨k + 1, by omega, by simp, by rw [HA.out], by rw [HY.out]; simp [hn0]⟩, by simp [intOf]; omega⟩
              · go_wp2_with fail
                exact ⟨⟨k + 1, by omega, by simp, by rw [HA.out], by rw [HY.out]; simp [hn0]⟩, by simp [intOf]; omega⟩
          · have e1 : (if 0 < t ∧ (a = 0 ∨ t < a) then t else a) = a := by rw [if_neg (by omega)]
            rw [e1] at HA
            cases y with
            | true =>
              go_wp2_with fail
              exact ⟨⟨k + 1, by omega, by simp, by rw [HA.out], by rw [HY.out]; rfl⟩, by simp [intOf]; omega⟩
            | false =>
              by_cases hn0 : 0 < n
              · go_wp2_with fail
                exact ⟨⟨k + 1, by omega, by simp, by rw [HA.out], by rw [HY.out]; simp [hn0]⟩, by simp [intOf]; omega⟩
              · go_wp2_with fail
                exact ⟨⟨k + 1, by omega, by simp, by rw [HA.out], by rw [HY.out]; simp [hn0]⟩, by simp [intOf]; omega⟩
      · have e1 : (if 0 < t ∧ (a = 0 ∨ t < a) then t else a) = a := by rw [if_neg (by omega)]
        rw [e1] at HA
        cases y with
        | true =>
          go_wp2_with fail
          exact ⟨⟨k + 1, by omega, by simp, by rw [HA.out], by rw [HY.out]; rfl⟩, by simp [intOf]; omega⟩
        | false =>
          by_cases hn0 : 0 < n
          · go_wp2_with fail
            exact ⟨⟨k + 1, by omega, by simp, by rw [HA.out], by rw [HY.out]; simp [hn0]⟩, by simp [intOf]; omega⟩
          · go_wp2_with fail
            exact ⟨⟨k + 1, by omega, by simp, by rw [HA.out], by rw [HY.out]; simp [hn0]⟩, by simp [intOf]; omega⟩
end Go.Proofs.Ytgdboikoejodpaa.Timer
