/- The law LossDrops. -/
import Derived.Test.YtgdboikoejodpaaLossThree
namespace Go.Proofs.Ytgdboikoejodpaa.LossDrops
open Go Go.RowKit Go.Proofs.YtgdboikoejodpaaW.PrintWords Go.Proofs.YtgdboikoejodpaaW.PrintLast Go.Proofs.YtgdboikoejodpaaW.PrintMore Go.Proofs.Ytgdboikoejodpaa.Keep Go.Proofs.Ytgdboikoejodpaa.Led Go.Proofs.Ytgdboikoejodpaa.Rate Go.Proofs.Ytgdboikoejodpaa.Rd Go.Proofs.Ytgdboikoejodpaa.Timer Go.Proofs.Ytgdboikoejodpaa.LedSp Go.Proofs.Ytgdboikoejodpaa.Drop Go.Proofs.Ytgdboikoejodpaa.In Go.Proofs.Ytgdboikoejodpaa.Split Go.Proofs.Ytgdboikoejodpaa.GoneP Go.Proofs.Ytgdboikoejodpaa.Gone Go.Proofs.Ytgdboikoejodpaa.AckP Go.Proofs.Ytgdboikoejodpaa.Ack Go.Proofs.Ytgdboikoejodpaa.Clone Go.Proofs.Ytgdboikoejodpaa.Sent Go.Proofs.Ytgdboikoejodpaa.Inv Go.Proofs.Ytgdboikoejodpaa.Fire Go.Proofs.Ytgdboikoejodpaa.Law Go.Proofs.Ytgdboikoejodpaa.LossWindow Go.Proofs.Ytgdboikoejodpaa.LossProbes
set_option linter.unusedVariables false

def rowD (s : Int) (m : Nat) : List S := (List.range m).map fun (j : Nat) => mk (j : Int) (j : Int) s
theorem rowD_succ (s : Int) (m : Nat) : rowD s (m + 1) = rowD s m ++ [mk (m : Int) (m : Int) s] := by simp [rowD, List.range_succ]
theorem rowD_len (s : Int) (m : Nat) : (rowD s m).length = m := by simp [rowD]
theorem rowD_sum (s : Int) (m : Nat) : sumS (rowD s m) = s * m := by
  induction m with
  | zero => simp [rowD, sumS]
  | succ m ih =>
    rw [rowD_succ, sumS_append, ih]
    simp only [sumS, mk, Int.add_zero, Int.natCast_add, Int.mul_add]
    simp
def PD (s : Int) (f : Nat → Nat) (L : Lg) : Prop := ∀ j, j < 3 → L.sp j = ⟨rowD s (f j), f j, 0, 0⟩
theorem PD_step {s : Int} {f g : Nat → Nat} {L : Lg} (h : PD s f L) (i k : Nat) (hk : k < 3) (hf : f k = i) (hg : ∀ j, j < 3 → g j = if j = k then i + 1 else f j) : PD s g (sentL k (mk (i : Int) (i : Int) s) L) := by
  intro j hj
  rw [hg j hj]
  by_cases e : j = k
  · subst e
    rw [if_pos rfl]
    show (setSp _ j _).sp j = _
    rw [setSp_same, h j hj, hf, rowD_succ]
    rfl
  · rw [if_neg e]
    show (setSp _ k _).sp j = _
    rw [setSp_other _ _ _ _ e]
    exact h j hj
theorem PD_drop {s : Int} {m n : Nat} {L : Lg} (h : PD s (fun _ => m) L) (k : Nat) (hk : k < 3) (hN : LgN n (dropL k L)) : (dropL k L).r.flight = 2 * (m : Int) * s := by
  rw [hN.t]
  have e : ∀ j, j < 3 → sumS ((dropL k L).sp j).list = if j = k then 0 else s * m := by
    intro j hj
    show sumS ((setSp _ k _).sp j).list = _
    by_cases e : j = k
    · subst e; rw [setSp_same, if_pos rfl]; rfl
    · rw [setSp_other _ _ _ _ e, if_neg e]
      show sumS (L.sp j).list = _
      rw [h j hj, rowD_sum]
  rw [e 0 (by omega), e 1 (by omega), e 2 (by omega)]
  have : 2 * (m : Int) * s = s * m + s * m := by rw [Int.mul_assoc, Int.mul_comm (m : Int) s]; omega
  rw [this]
  rcases three hk with rfl | rfl | rfl <;> simp

set_option maxHeartbeats 4000000 in
set_option maxRecDepth 100000 in
theorem law (n a s : Int) (hn0 : (Lit.int .u8 n).wf = true) (ha0 : (Lit.int .u8 a).wf = true) (hs0 : (Lit.int .u8 s).wf = true) (w : World) : Calls Try.prog 5 #[.int .u8 n, .int .u8 a, .int .u8 s] w fun e w' => e = .returned (.bool true) ∧ Below w.heap.size w w' := by
  have hn : 0 ≤ n ∧ n < 256 := by
    simp [Lit.wf, IntKind.min, IntKind.max, IntKind.bits, IntKind.signed] at hn0
    omega
  have ha : 0 ≤ a ∧ a < 256 := by
    simp [Lit.wf, IntKind.min, IntKind.max, IntKind.bits, IntKind.signed] at ha0
    omega
  have hs : 0 ≤ s ∧ s < 256 := by
    simp [Lit.wf, IntKind.min, IntKind.max, IntKind.bits, IntKind.signed] at hs0
    omega
  obtain ⟨n0, n1⟩ := hn
  obtain ⟨a0, a1⟩ := ha
  obtain ⟨s0, s1⟩ := hs
  clear hn0 ha0 hs0
  obtain ⟨m, hm, hm2⟩ : ∃ m : Nat, n % 20 + 1 = (m : Int) ∧ m ≤ 20 := ⟨(n % 20 + 1).toNat, by omega, by omega⟩
  have hm1 : 1 ≤ m := by omega
  obtain ⟨k, hk, hk2⟩ : ∃ k : Nat, a % 3 = (k : Int) ∧ k < 3 := ⟨(a % 3).toNat, by omega, by omega⟩
  have hwn : IntKind.u64.wrap (n % 20) = n % 20 := by rw [IntKind.wrap_u64]; omega
  have hwn2 : IntKind.u64.wrap (n % 20 + 1) = m := by rw [IntKind.wrap_u64]; omega
  have hws : IntKind.u64.wrap s = s := by rw [IntKind.wrap_u64]; omega
  have hwk : IntKind.i64.wrap (a % 3) = k := by rw [IntKind.wrap_i64]; omega
  go_enter Try.func5, Try.ntmps5
  go_wp2_with fail
  refine (awake w).mono ?_
  rintro e w1 ⟨rfl, B1⟩
  go_wp2_with fail
  refine (lw_new B1).mono ?_
  rintro e w2 ⟨p, rfl, -, H2, -⟩
  have H2 := Lib.hid H2
  clear B1
  go_wp2_with fail
  clear hwn hwn2 hm n0 n1
  go_loopw [28] (fun j wr => ∃ (i : Nat) (L : Lg) (v : Nat → Value), i ≤ m ∧ j = .int .u64 (i : Int) ∧ Hid (LW w wr p 0 L v) ∧ Hid (PD s (fun _ => i) L)) (fun j _ => m - (intOf j).toNat)
  case atStart => exact ⟨0, newL, v0, by omega, rfl, H2, Lib.hid (fun j hj => rfl)⟩
  case round =>
    obtain ⟨i, L, v, hi, rfl, HL, HP⟩ := hrel
    clear H2
    by_cases him : i < m
    · go_wp2_with fail
      go_loopw [31] (fun j wr => ∃ (k : Nat) (L : Lg) (v : Nat → Value), k ≤ 3 ∧ j = .int .i64 (k : Int) ∧ Hid (LW w wr p 0 L v) ∧ Hid (PD s (fun j => if j < k then i + 1 else i) L)) (fun j _ => 3 - (intOf j).toNat)
      case atStart => exact ⟨0, L, v, by omega, rfl, HL, Lib.hid (by simpa using HP.out)⟩
      case round =>
        obtain ⟨k3, L3, v3, hk3, rfl, HL3, HP3⟩ := hrel
        by_cases hk33 : k3 < 3
        · go_wp2_with fail
          refine (lw_sent HL3.out k3 hk33 (i : Int) (i : Int) s ⟨by omega, by omega, by omega, by omega, by omega, by omega⟩ (by rw [HP3.out k3 hk33]; simp) (by rw [HP3.out k3 hk33]; simp [rowD_len]; omega)).mono ?_
          rintro e w4 ⟨rfl, v4, H4, -⟩
          have H4 := Lib.hid H4
          have HP4 := Lib.hid (PD_step (g := fun j => if j < k3 + 1 then i + 1 else i) HP3.out i k3 hk33 (by simp) (fun j hj => by by_cases e : j = k3 <;> by_cases e2 : j < k3 <;> simp [e, e2] <;> omega))
          go_wp2_with fail
          go_roundw
          case rel => exact ⟨k3 + 1, _, _, by omega, by simp, H4, HP4⟩
          case measure => simp [intOf]; omega
        · have e : k3 = 3 := by omega
          subst e
          go_wp2_with fail
          go_roundw
          case rel => exact ⟨i + 1, L3, v3, by omega, by simp, HL3, Lib.hid (fun j hj => by have := HP3.out j hj; simp only [hj, if_true] at this; exact this)⟩
          case measure => simp [intOf]; omega
    · have e : i = m := by omega
      subst e
      go_wp2_with fail
      refine (lw_drop HL.out k hk2).mono ?_
      rintro e w3 ⟨rfl, v3, H3, -⟩
      have hfl := PD_drop HP.out k hk2 H3.inv
      have sk : (dropL k L).sp k = ⟨[], i, 0, 0⟩ := by
        show (setSp _ k _).sp k = _
        rw [setSp_same, HP.out k hk2]
      have so : ∀ j, j < 3 → j ≠ k → ((dropL k L).sp j).list.length = i := by
        intro j hj hjk
        show ((setSp _ k _).sp j).list.length = _
        rw [setSp_other _ _ _ _ hjk]
        show (L.sp j).list.length = _
        rw [HP.out j hj, rowD_len]
      have H3 := Lib.hid H3
      have ST := lw_state H3.out
      rw [hfl] at ST
      have HST := Lib.hid ST
      have HSK := Lib.hid sk
      have HSO := Lib.hid so
      clear ST hfl sk so
      generalize dropL k L = L3 at H3 HST HSK HSO ⊢
      go_wp2_with fail
      refine HST.out.mono ?_
      rintro e w4 ⟨rfl, n4, rfl⟩
      have H4 := Lib.hid (H3.out.drewN n4)
      generalize w3.drewN n4 = w4 at H4 ⊢
      clear HST
      have ea : ackL k [⟨0, (i : Int) - 1⟩] 100 L3 = ([], [], 0, setSp L3 k { L3.sp k with acked := topQ [⟨0, (i : Int) - 1⟩] (L3.sp k).acked }) := by
        unfold ackL
        rw [HSK.out]
        simp only []
        rw [if_neg (by simp [okQ]; omega), if_pos (by rfl)]
      have hwi : IntKind.u64.wrap ((i : Int) - 1) = (i : Int) - 1 := by rw [IntKind.wrap_u64]; omega
      have LA := lw_one (H4.out.go ((Below.refl _ _).alloc (Nat.le_refl _) _)) (by omega) k hk2 100 ⟨by omega, by omega⟩ w4.heap.size 1 ⟨0, (i : Int) - 1⟩ (heap_alloc_new w4 (.cells #[.int .u64 0, .int .u64 ((i : Int) - 1)] 35)) ⟨by show (0 : Int) ≤ 0; omega, by show (0 : Int) < _; omega, by show 0 ≤ (i : Int) - 1; omega, by show (i : Int) - 1 < _; omega⟩
      rw [ea] at LA
      have HLA := Lib.hid LA
      clear LA ea
      go_wp2_with fail
      refine HLA.out.mono ?_
      rintro e w5 ⟨va, vl, v5, rfl, H5, RA, RL, -⟩
      obtain ⟨A5, c5, e5, -⟩ := row_slice RA
      obtain ⟨A6, c6, e6, -⟩ := row_slice RL
      have e5 : va = .slice A5 0 c5 := e5
      have e6 : vl = .slice A6 0 c6 := e6
      subst e5 e6
      have H5 := Lib.hid H5
      clear RA RL HLA
      have sk5 : ∀ x, (setSp L3 k { L3.sp k with acked := x }).sp k = ⟨[], i, x, 0⟩ := fun x => by rw [setSp_same, HSK.out]
      have so5 : ∀ x j, j < 3 → j ≠ k → ((setSp L3 k { L3.sp k with acked := x }).sp j).list.length = i := fun x j hj hjk => by rw [setSp_other _ _ _ _ hjk]; exact HSO.out j hj hjk
      obtain ⟨tq, htq⟩ : ∃ tq, topQ [⟨0, (i : Int) - 1⟩] (L3.sp k).acked = tq := ⟨_, rfl⟩
      rw [htq] at H5
      have sk5 := sk5 tq
      have so5 := so5 tq
      have HSK5 := Lib.hid sk5
      have HSO5 := Lib.hid so5
      clear sk5 so5
      generalize setSp L3 k { L3.sp k with acked := tq } = L5 at H5 HSK5 HSO5 ⊢
      go_wp2_with fail
      refine (sent_order H5.out.led k hk2 ⟨(i : Int) - 1, 100, 0, true, none, 0, 0⟩ ⟨by show 0 ≤ (i : Int) - 1; omega, by show (i : Int) - 1 < _; omega, by show (0 : Int) ≤ 100; omega, by show (100 : Int) < _; omega, by show (0 : Int) ≤ 0; omega, by show (0 : Int) < _; omega⟩ (by unfold bad; show ¬ ((k : Int) < 0 ∨ 3 ≤ (k : Int) ∨ 1099511627776 < (100 : Int) ∨ 1200 < (0 : Int) ∨ 4611686018427387903 < (i : Int) - 1); omega) (by rw [HSK5.out]; show (i : Int) - 1 < i; omega)).mono ?_
      rintro e w6 ⟨rfl, B6⟩
      have H6 := Lib.hid (H5.out.go B6)
      clear B6
      have hwm : IntKind.u64.wrap (2 * (i : Int)) = 2 * (i : Int) := by rw [IntKind.wrap_u64]; omega
      have hb1 : 0 ≤ 2 * (i : Int) * s := Int.mul_nonneg (by omega) s0
      have hb2 : 2 * (i : Int) * s ≤ 40 * 256 := Int.mul_le_mul (by omega) (by omega) s0 (by omega)
      have hwm2 : IntKind.u64.wrap (2 * (i : Int) * s) = 2 * (i : Int) * s := by rw [IntKind.wrap_u64]; omega
      have O1 := open_calls H6.out.led k hk2 (by rw [HSK5.out]; simp)
      rw [HSK5.out] at O1
      have HO1 := Lib.hid O1
      clear O1
      go_wp2_with fail
      refine HO1.out.mono ?_
      rintro e w7 ⟨u7, rfl, R7, B7⟩
      obtain ⟨A7, c7, e7, -⟩ := row_slice R7
      have e7 : u7 = .slice A7 0 c7 := e7
      subst e7
      have H7 := Lib.hid (H6.out.go B7)
      clear R7 B7 HO1
      obtain ⟨k', hk', hk'2, hk'3⟩ : ∃ k' : Nat, ((k : Int) + 1).tmod 3 = (k' : Int) ∧ k' < 3 ∧ k' ≠ k := by
        rcases three hk2 with rfl | rfl | rfl
        · exact ⟨1, rfl, by omega, by omega⟩
        · exact ⟨2, rfl, by omega, by omega⟩
        · exact ⟨0, rfl, by omega, by omega⟩
      have hwk1 : IntKind.i64.wrap ((k : Int) + 1) = (k : Int) + 1 := by rw [IntKind.wrap_i64]; omega
      have O2 := open_calls H7.out.led k' hk'2 (by rw [HSO5.out k' hk'2 hk'3]; omega)
      have HO2 := Lib.hid O2
      clear O2
      go_wp2_with fail
      refine HO2.out.mono ?_
      rintro e w8 ⟨u8, rfl, R8, B8⟩
      obtain ⟨A8, c8, e8, -⟩ := row_slice R8
      rw [HSO5.out k' hk'2 hk'3] at e8
      subst e8
      have H8 := Lib.hid (H7.out.go B8)
      have hwi2 : IntKind.u64.wrap (i : Int) = i := by rw [IntKind.wrap_u64]; omega
      clear R8 B8 HO2
      go_wp2_with fail
      go_ret
      exact ⟨rfl, H8.out.below⟩
end Go.Proofs.Ytgdboikoejodpaa.LossDrops
