/- The reference's Flight, Timer, SameSent. -/
import Derived.Test.YtgdboikoejodpaaRef
namespace Go.Proofs.Ytgdboikoejodpaa.RefB
open Go Go.RowKit Go.Proofs.YtgdboikoejodpaaW.PrintWords Go.Proofs.YtgdboikoejodpaaW.PrintLast Go.Proofs.YtgdboikoejodpaaW.PrintMore Go.Proofs.Ytgdboikoejodpaa.Keep Go.Proofs.Ytgdboikoejodpaa.Led Go.Proofs.Ytgdboikoejodpaa.Rate Go.Proofs.Ytgdboikoejodpaa.Rd Go.Proofs.Ytgdboikoejodpaa.Timer Go.Proofs.Ytgdboikoejodpaa.LedSp Go.Proofs.Ytgdboikoejodpaa.Drop Go.Proofs.Ytgdboikoejodpaa.In Go.Proofs.Ytgdboikoejodpaa.Split Go.Proofs.Ytgdboikoejodpaa.GoneP Go.Proofs.Ytgdboikoejodpaa.Gone Go.Proofs.Ytgdboikoejodpaa.AckP Go.Proofs.Ytgdboikoejodpaa.Ack Go.Proofs.Ytgdboikoejodpaa.Clone Go.Proofs.Ytgdboikoejodpaa.Sent Go.Proofs.Ytgdboikoejodpaa.Inv Go.Proofs.Ytgdboikoejodpaa.Fire Go.Proofs.Ytgdboikoejodpaa.Law Go.Proofs.Ytgdboikoejodpaa.Ref
set_option linter.unusedVariables false

def fl (L : Lg) : Nat → Int
  | 0 => 0
  | k + 1 => fl L k + sumS (L.sp k).list
theorem fl_b {n : Nat} {L : Lg} (h : LgN n L) (k : Nat) (hk : k ≤ 3) : 0 ≤ fl L k ∧ fl L k ≤ 1228800 * k := by
  induction k with
  | zero => simp [fl]
  | succ k ih =>
    have := ih (by omega)
    have := h.flb k (by omega)
    have := h.nn k (by omega)
    simp only [fl]
    omega
theorem fl_eq {n : Nat} {L : Lg} (h : LgN n L) : fl L 3 = L.r.flight := by rw [h.t]; simp [fl]
set_option maxHeartbeats 1000000 in
theorem rflight_calls {w : World} {q base : Nat} {L : Lg} {v : Nat → Value} (h : RL w q base L v) {n : Nat} (hN : LgN n L) :
    Calls Try.prog 28 #[.pointer (some ⟨q, 0, none⟩)] w fun e w' => e = .returned (.int .u64 L.r.flight) ∧ w = w' := by
  have HL := Lib.hid h
  have HN := Lib.hid hN
  clear h hN
  go_enter Try.func28, Try.ntmps28
  go_wp2_with fail
  go_loop [3, 4] (fun s i => ∃ k : Nat, k ≤ 3 ∧ i = .int .i64 (k : Int) ∧ s = .int .u64 (fl L k)) (fun _ i => 3 - (intOf i).toNat)
  case atStart => exact ⟨0, by omega, rfl, rfl⟩
  case round =>
    obtain ⟨k, hk, rfl, rfl⟩ := hrel
    by_cases hk3 : k < 3
    · obtain ⟨k0, -, -, -⟩ := HL.out.ways k hk3
      obtain ⟨A, c, ev, hX⟩ := RE_slice (HL.out.row k hk3)
      rw [ev] at k0
      have hb := fl_b HN.out k hk
      have e1 : fl L (k + 1) = fl L k + sumS (L.sp k).list := rfl
      have hs := HN.out.flb k hk3
      have hnn := HN.out.nn k hk3
      have hp : ∀ x ∈ (L.sp k).list, 0 ≤ x.size := fun x hx => (HN.out.b.list k hk3 x hx).2.2.2.2.1
      obtain ⟨l, hl⟩ : ∃ l, (L.sp k).list = l := ⟨_, rfl⟩
      have hlm := HN.out.b.many k hk3
      rw [hl] at k0 hX e1 hs hnn hp hlm
      obtain ⟨f0, hf0⟩ : ∃ f0, fl L k = f0 := ⟨_, rfl⟩
      rw [hf0] at hb e1 ⊢
      have HX := Lib.hid hX
      have HP := Lib.hid hp
      have HE := Lib.hid e1
      clear hX hp ev hl e1
      go_wp2_with fail
      go_loop [3, 5] (fun s j => ∃ m : Nat, m ≤ l.length ∧ j = .int .i64 (m : Int) ∧ s = .int .u64 (f0 + sumS (l.take m))) (fun _ j => l.length - (intOf j).toNat)
      case atStart => exact ⟨0, by omega, rfl, by simp [sumS]⟩
      case round =>
        obtain ⟨m, hm, rfl, rfl⟩ := hrel
        by_cases hml : m < l.length
        · obtain ⟨ad, A', c', eA, j0, j1, j2, j3, j4⟩ := at_E HX.out m hml
          subst eA
          have hs1 := sumS_take l m hml
          have hs2 := sumS_split l (m + 1)
          have hs3 := sumS_nonneg (l := l.drop (m + 1)) (fun x hx => HP.out x (List.mem_of_mem_drop hx))
          have hs4 := sumS_nonneg (l := l.take m) (fun x hx => HP.out x (List.mem_of_mem_take hx))
          have hsx := HP.out _ (rdS_mem hml)
          obtain ⟨x, hx⟩ : ∃ x, rdS l (m : Int) = x := ⟨_, rfl⟩
          rw [hx] at j0 j1 j2 j3 j4 hs1 hsx
          obtain ⟨sm, hsm⟩ : ∃ sm, sumS (l.take m) = sm := ⟨_, rfl⟩
          rw [hsm] at hs1 hs4 ⊢
          have hw : IntKind.u64.wrap (f0 + sm + x.size) = f0 + sm + x.size := by rw [IntKind.wrap_u64]; omega
          go_wp2_with fail
          exact ⟨⟨m + 1, by omega, by simp, by rw [hs1, Int.add_assoc]⟩, by simp [intOf]; omega⟩
        · have e : m = l.length := by omega
          subst e
          rw [List.take_length]
          go_wp2_with fail
          exact ⟨⟨k + 1, by omega, by simp, by rw [HE.out]⟩, by simp [intOf]; omega⟩
    · have e : k = 3 := by omega
      subst e
      have e2 := fl_eq HN.out
      rw [e2]
      go_wp2_with fail
      go_ret
      exact ⟨rfl, rfl⟩
set_option maxHeartbeats 8000000 in
set_option maxRecDepth 100000 in
/-- Two lists that are the same, but for where their frames lie. -/
theorem rsame_calls {w : World} (A B : Option Addr) (c d : Nat) (l : List S) (hC : Kd.C kS w A l.length l) (hE : Kd.C kE w B l.length l) (hl : l.length ≤ 1000000) :
    Calls Try.prog 23 #[.slice A l.length c, .slice B l.length d] w fun e w' => e = .returned (.bool true) ∧ ∃ n, w' = w.drewN n := by
  have HC := Lib.hid hC
  have HE := Lib.hid hE
  clear hC hE
  go_enter Try.func23, Try.ntmps23
  go_wp2_with fail
  go_loopw [5] (fun i wr => ∃ (k n : Nat), k ≤ l.length ∧ i = .int .i64 (k : Int) ∧ wr = w.drewN n) (fun i _ => l.length - (intOf i).toNat)
  case atStart => exact ⟨0, 0, by omega, rfl, (World.drewN_zero w).symm⟩
  case round =>
    obtain ⟨k, n, hk, rfl, rfl⟩ := hrel
    by_cases hkl : k < l.length
    · obtain ⟨ad, eA, j0, j1, j2, j3, j4⟩ := at_S HC.out k hkl
      obtain ⟨bd, A', c', eB, i0, i1, i2, i3, i4⟩ := at_E HE.out k hkl
      subst eA eB
      obtain ⟨x, hx⟩ : ∃ x, rdS l (k : Int) = x := ⟨_, rfl⟩
      rw [hx] at j0 j1 j2 j3 j4 i0 i1 i2 i3 i4
      have hb : (x.asks != x.asks) = false := by cases x.asks <;> rfl
      go_wp2_with fail
      go_quiet (fail)
      go_wp2_with fail
      go_roundw
      case rel => exact ⟨k + 1, n + nq, by omega, by simp, rfl⟩
      case measure => simp [intOf]; omega
    · go_wp2_with fail
      go_ret
      exact ⟨rfl, n, rfl⟩
theorem pw_lin (a b : Int) : a + b = b + a := Int.add_comm a b
set_option maxHeartbeats 4000000 in
set_option maxRecDepth 100000 in
theorem rtimer_calls {w : World} {q base : Nat} {L : Lg} {v : Nat → Value} (h : RL w q base L v) (hb : LgB L) :
    Calls Try.prog 24 #[.pointer (some ⟨q, 0, none⟩)] w fun e w' => e = .returned (.tuple #[.int .u64 (timerL L).1, .bool (timerL L).2]) ∧ w = w' := by
  have HL := Lib.hid h
  have HB := Lib.hid hb
  clear h hb
  go_enter Try.func24, Try.ntmps24
  go_wp2_with fail
  go_loop [4, 5, 6] (fun a y i => ∃ k : Nat, k ≤ 3 ∧ i = .int .i64 (k : Int) ∧ a = .int .u64 (tmAt L k) ∧ y = .bool (tmAny L k)) (fun _ _ i => 3 - (intOf i).toNat)
  case atStart => exact ⟨0, by omega, rfl, rfl, rfl⟩
  case round =>
    obtain ⟨k, hk, rfl, rfl, rfl⟩ := hrel
    obtain ⟨t0, t1⟩ := tmAt_bound HB.out k hk
    by_cases hk3 : k = 3
    · subst hk3
      obtain ⟨a, ha⟩ : ∃ a, tmAt L 3 = a := ⟨_, rfl⟩
      obtain ⟨y, hy⟩ : ∃ y, tmAny L 3 = y := ⟨_, rfl⟩
      rw [ha] at t0 t1 ⊢
      rw [hy]
      by_cases h1 : 0 < a
      · have e : timerL L = (a, true) := by unfold timerL; rw [ha, if_pos (.inl h1)]; simp [h1]
        have HE := Lib.hid e
        clear HL HB e
        go_wp2_with fail
        all_goals go_ret2
        all_goals exact ⟨by rw [HE.out]; rfl, rfl⟩
      · have e0 : a = 0 := by omega
        subst e0
        cases y with
        | false =>
          have e : timerL L = (0, false) := by unfold timerL; rw [hy, if_pos (.inr rfl), ha]; rfl
          have HE := Lib.hid e
          clear HL HB e
          go_wp2_with fail
          all_goals go_ret2
          all_goals exact ⟨by rw [HE.out]; rfl, rfl⟩
        | true =>
          have e : timerL L = (L.last + (L.r.smooth + mx (4 * L.r.vary) 1) * 2 ^ (mn L.tries 16).toNat, true) := by unfold timerL; rw [hy, ha]; rfl
          have HE := Lib.hid e
          obtain ⟨k0, k1, -, -, -, -, k6, k7⟩ := HL.out.rate
          obtain ⟨a0, a1⟩ := HB.out.r.sm
          obtain ⟨b0, b1⟩ := HB.out.r.va
          obtain ⟨c0, c1⟩ := HB.out.tries
          obtain ⟨d0, d1⟩ := HB.out.last
          clear HL HB e
          obtain ⟨sm, hsm⟩ : ∃ x, L.r.smooth = x := ⟨_, rfl⟩
          obtain ⟨va, hva⟩ : ∃ x, L.r.vary = x := ⟨_, rfl⟩
          obtain ⟨tr, htr⟩ : ∃ x, L.tries = x := ⟨_, rfl⟩
          obtain ⟨la, hla⟩ : ∃ x, L.last = x := ⟨_, rfl⟩
          rw [hsm] at k0 a0 a1 HE
          rw [hva] at k1 b0 b1 HE
          rw [htr] at k7 c0 c1 HE
          rw [hla] at k6 d0 d1 HE
          obtain ⟨ba, hba⟩ : ∃ x, sm + mx (4 * va) 1 = x := ⟨_, rfl⟩
          rw [hba] at HE
          have hbb : 0 ≤ ba ∧ ba ≤ 87960930222080 := by rw [← hba]; unfold mx; split <;> omega
          have hw4 : IntKind.u64.wrap (4 * va) = 4 * va := by rw [IntKind.wrap_u64]; omega
          go_upto_if 56 with fail
          go_cut [8] from 54 (fun x wc => x = .int .u64 (mx (4 * va) 1) ∧ wc = w)
          case first =>
            by_cases h4 : 4 * va < 1
            · have hm : mx (4 * va) 1 = 1 := by unfold mx; rw [if_pos h4]
              go_wp2_with fail
              all_goals (go_meet; case rel => exact ⟨by rw [hm], rfl⟩)
            · have hm : mx (4 * va) 1 = 4 * va := by unfold mx; rw [if_neg h4]
              go_wp2_with fail
              all_goals (go_meet; case rel => exact ⟨by rw [hm], rfl⟩)
          case rest =>
            obtain ⟨rfl, rfl⟩ := hcut
            obtain ⟨mv, hmv⟩ : ∃ x, mx (4 * va) 1 = x := ⟨_, rfl⟩
            rw [hmv] at hba ⊢
            have hws : IntKind.u64.wrap (mv + sm) = ba := by rw [IntKind.wrap_u64]; omega
            go_wp2_with fail
            go_loop [8, 9] (fun x i => ∃ j : Nat, (j : Int) ≤ tr ∧ j ≤ 16 ∧ i = .int .i64 (j : Int) ∧ x = .int .u64 (ba * 2 ^ j)) (fun _ i => 16 - (intOf i).toNat)
            case atStart => exact ⟨0, by omega, by omega, rfl, by simp⟩
            case round =>
              obtain ⟨j, hj1, hj2, rfl, rfl⟩ := hrel
              have hpj := pw2 (t := (j : Int)) (by omega)
              have hpj : 0 ≤ (2 : Int) ^ j ∧ (2 : Int) ^ j ≤ 65536 := hpj
              have hp1 : (2 : Int) ^ (j + 1) = 2 ^ j * 2 := Int.pow_succ _ _
              have hpm : ba * 2 ^ j ≤ 87960930222080 * 65536 := Int.mul_le_mul hbb.2 hpj.2 hpj.1 (by decide)
              have hpn : 0 ≤ ba * 2 ^ j := Int.mul_nonneg hbb.1 hpj.1
              by_cases hjt : (j : Int) < tr
              · by_cases hj16 : (j : Int) < 16
                · have e2 : ba * 2 ^ (j + 1) = 2 * (ba * 2 ^ j) := by rw [hp1, ← Int.mul_assoc, Int.mul_comm]
                  have hw2 : IntKind.u64.wrap (2 * (ba * 2 ^ j)) = 2 * (ba * 2 ^ j) := by rw [IntKind.wrap_u64]; omega
                  obtain ⟨P, hP⟩ : ∃ P, ba * 2 ^ j = P := ⟨_, rfl⟩
                  rw [hP] at e2 hw2 hpm hpn ⊢
                  go_wp2_with fail
                  exact ⟨⟨j + 1, by omega, by omega, by simp, by rw [e2]⟩, by simp [intOf]; omega⟩
                · have e9 : (mn tr 16).toNat = j := by unfold mn; split <;> omega
                  have hw3 : IntKind.u64.wrap (la + ba * 2 ^ j) = la + ba * 2 ^ j := by rw [IntKind.wrap_u64]; omega
                  have HP := Lib.hid e9
                  obtain ⟨P, hP⟩ : ∃ P, ba * 2 ^ j = P := ⟨_, rfl⟩
                  rw [hP] at hw3 ⊢
                  go_wp2_with fail
                  go_ret2
                  exact ⟨by rw [HE.out, HP.out, hP]; rfl, rfl⟩
              · have e9 : (mn tr 16).toNat = j := by unfold mn; split <;> omega
                have hw3 : IntKind.u64.wrap (la + ba * 2 ^ j) = la + ba * 2 ^ j := by rw [IntKind.wrap_u64]; omega
                have HP := Lib.hid e9
                obtain ⟨P, hP⟩ : ∃ P, ba * 2 ^ j = P := ⟨_, rfl⟩
                rw [hP] at hw3 ⊢
                go_wp2_with fail
                go_ret2
                exact ⟨by rw [HE.out, HP.out, hP]; rfl, rfl⟩
    · have hkk : k < 3 := by omega
      obtain ⟨k0, -, -, k3⟩ := HL.out.ways k hkk
      obtain ⟨A5, c5, e5, -⟩ := RE_slice (HL.out.row k hkk)
      obtain ⟨u0, u1⟩ := HB.out.timeout k hkk
      have hm := HB.out.many k hkk
      rw [e5] at k0
      obtain ⟨n, hn⟩ : ∃ n, (L.sp k).list.length = n := ⟨_, rfl⟩
      obtain ⟨t, ht⟩ : ∃ t, (L.sp k).timeout = t := ⟨_, rfl⟩
      obtain ⟨a, ha⟩ : ∃ a, tmAt L k = a := ⟨_, rfl⟩
      obtain ⟨y, hy⟩ : ∃ y, tmAny L k = y := ⟨_, rfl⟩
      have ey : tmAny L (k + 1) = (y || decide (0 < n)) := by unfold tmAny; rw [hy, hn]
      have ea : tmAt L (k + 1) = if 0 < t ∧ (a = 0 ∨ t < a) then t else a := by rw [tmAt, ht, ha]
      rw [hn] at k0 hm
      rw [ht] at k3 u0 u1
      rw [ha] at t0 t1 ⊢
      rw [hy]
      clear hn ht ha hy
      have HY := Lib.hid ey
      have HA := Lib.hid ea
      clear ey ea e5
      by_cases ht0 : 0 < t
      · by_cases ha0 : a = 0
        · subst ha0
          have e1 : (if 0 < t ∧ ((0 : Int) = 0 ∨ t < 0) then t else 0) = t := by rw [if_pos ⟨ht0, .inl rfl⟩]
          rw [e1] at HA
          cases y with
          | true =>
            go_wp2_with fail
            exact ⟨⟨k + 1, by omega, by simp, by rw [HA.out], by rw [HY.out]; rfl⟩, by simp [intOf]; omega⟩
          | false =>
            by_cases hn0 : 0 < n
            · go_wp2_with fail
              exact ⟨⟨k + 1, by omega, by simp, by rw [HA.out], by rw [HY.out]; simp [hn0]⟩, by simp [intOf]; omega⟩
            · go_wp2_with fail
              exact ⟨⟨k + 1, by omega, by simp, by rw [HA.out], by rw [HY.out]; simp [hn0]⟩, by simp [intOf]; omega⟩
        · by_cases hta : t < a
          · have e1 : (if 0 < t ∧ (a = 0 ∨ t < a) then t else a) = t := by rw [if_pos ⟨ht0, .inr hta⟩]
            rw [e1] at HA
            cases y with
            | true =>
              go_wp2_with fail
              exact ⟨⟨k + 1, by omega, by simp, by rw [HA.out], by rw [HY.out]; rfl⟩, by simp [intOf]; omega⟩
            | false =>
              by_cases hn0 : 0 < n
              · go_wp2_with fail
                exact ⟨⟨k + 1, by omega, by simp, by rw [HA.out], by rw [HY.out]; simp [hn0]⟩, by simp [intOf]; omega⟩
              · go_wp2_with fail
                exact ⟨⟨k + 1, by omega, by simp, by rw [HA.out], by rw [HY.out]; simp [hn0]⟩, by simp [intOf]; omega⟩
          · have e1 : (if 0 < t ∧ (a = 0 ∨ t < a) then t else a) = a := by rw [if_neg (by omega)]
            rw [e1] at HA
            cases y with
            | true =>
              go_wp2_with fail
              exact ⟨⟨k + 1, by omega, by simp, by rw [HA.out], by rw [HY.out]; rfl⟩, by simp [intOf]; omega⟩
            | false =>
              by_cases hn0 : 0 < n
              · go_wp2_with fail
                exact ⟨⟨k + 1, by omega, by simp, by rw [HA.out], by rw [HY.out]; simp [hn0]⟩, by simp [intOf]; omega⟩
              · go_wp2_with fail
                exact ⟨⟨k + 1, by omega, by simp, by rw [HA.out], by rw [HY.out]; simp [hn0]⟩, by simp [intOf]; omega⟩
      · have e1 : (if 0 < t ∧ (a = 0 ∨ t < a) then t else a) = a := by rw [if_neg (by omega)]
        rw [e1] at HA
        cases y with
        | true =>
          go_wp2_with fail
          exact ⟨⟨k + 1, by omega, by simp, by rw [HA.out], by rw [HY.out]; rfl⟩, by simp [intOf]; omega⟩
        | false =>
          by_cases hn0 : 0 < n
          · go_wp2_with fail
            exact ⟨⟨k + 1, by omega, by simp, by rw [HA.out], by rw [HY.out]; simp [hn0]⟩, by simp [intOf]; omega⟩
          · go_wp2_with fail
            exact ⟨⟨k + 1, by omega, by simp, by rw [HA.out], by rw [HY.out]; simp [hn0]⟩, by simp [intOf]; omega⟩
end Go.Proofs.Ytgdboikoejodpaa.RefB
