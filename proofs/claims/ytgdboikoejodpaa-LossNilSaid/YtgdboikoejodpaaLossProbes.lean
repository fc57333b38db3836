/- One packet acknowledged among others; the law LossProbes. -/
import Derived.Test.YtgdboikoejodpaaLossWindow
namespace Go.Proofs.Ytgdboikoejodpaa.LossProbes
open Go Go.RowKit Go.Proofs.YtgdboikoejodpaaW.PrintWords Go.Proofs.YtgdboikoejodpaaW.PrintLast Go.Proofs.YtgdboikoejodpaaW.PrintMore Go.Proofs.Ytgdboikoejodpaa.Keep Go.Proofs.Ytgdboikoejodpaa.Led Go.Proofs.Ytgdboikoejodpaa.Rate Go.Proofs.Ytgdboikoejodpaa.Rd Go.Proofs.Ytgdboikoejodpaa.Timer Go.Proofs.Ytgdboikoejodpaa.LedSp Go.Proofs.Ytgdboikoejodpaa.Drop Go.Proofs.Ytgdboikoejodpaa.In Go.Proofs.Ytgdboikoejodpaa.Split Go.Proofs.Ytgdboikoejodpaa.GoneP Go.Proofs.Ytgdboikoejodpaa.Gone Go.Proofs.Ytgdboikoejodpaa.AckP Go.Proofs.Ytgdboikoejodpaa.Ack Go.Proofs.Ytgdboikoejodpaa.Clone Go.Proofs.Ytgdboikoejodpaa.Sent Go.Proofs.Ytgdboikoejodpaa.Inv Go.Proofs.Ytgdboikoejodpaa.Fire Go.Proofs.Ytgdboikoejodpaa.Law
set_option linter.unusedVariables false

theorem ack_mid (i : Nat) (L : Lg) (l1 l2 : List S) (y : S) (nx ac to2 now : Int) (hs : L.sp i = ⟨l1 ++ y :: l2, nx, ac, to2⟩) (hy : y.pn < nx) (hl : ∀ x ∈ l1 ++ l2, x.pn ≠ y.pn) (ha : ac ≤ y.pn) (ht : y.time ≤ now) :
    ackL i [⟨y.pn, y.pn⟩] now L = ([y], goneO i now (midL i [⟨y.pn, y.pn⟩] now L), 0, goneL i now (midL i [⟨y.pn, y.pn⟩] now L)) ∧ midL i [⟨y.pn, y.pn⟩] now L = { setSp { L with r := moreR y (timeR (now - y.time) L.r) } i ⟨l1 ++ l2, nx, y.pn + 1, to2⟩ with tries := 0 } := by
  have n1 : ∀ l : List S, (∀ x ∈ l, x.pn ≠ y.pn) → l.filter (fun x => [(⟨y.pn, y.pn⟩ : Q)].any (inQ x.pn)) = [] := by
    intro l h
    rw [List.filter_eq_nil_iff]
    intro x hx
    have := h x hx
    simp [inQ]; omega
  have n2 : ∀ l : List S, (∀ x ∈ l, x.pn ≠ y.pn) → l.filter (fun x => ![(⟨y.pn, y.pn⟩ : Q)].any (inQ x.pn)) = l := by
    intro l h
    rw [List.filter_eq_self]
    intro x hx
    have := h x hx
    simp [inQ]; omega
  have e1 : ([(⟨y.pn, y.pn⟩ : Q)].any (inQ y.pn)) = true := by simp [inQ]
  have h1 : ∀ x ∈ l1, x.pn ≠ y.pn := fun x hx => hl x (List.mem_append_left _ hx)
  have h2 : ∀ x ∈ l2, x.pn ≠ y.pn := fun x hx => hl x (List.mem_append_right _ hx)
  have g1 : gotL [⟨y.pn, y.pn⟩] (l1 ++ y :: l2) = [y] := by
    unfold gotL
    rw [List.filter_append, n1 l1 h1, List.filter_cons_of_pos (by exact e1), n1 l2 h2]; rfl
  have g2 : stayL [⟨y.pn, y.pn⟩] (l1 ++ y :: l2) = l1 ++ l2 := by
    unfold stayL
    rw [List.filter_append, n2 l1 h1, List.filter_cons_of_neg (by rw [e1]; decide), n2 l2 h2]
  have g3 : topQ [⟨y.pn, y.pn⟩] ac = y.pn + 1 := by simp [topQ, mx]; omega
  constructor
  · unfold ackL
    rw [hs]
    simp only []
    rw [g1, if_neg (by simp [okQ]; omega), if_neg (by simp)]
  · unfold midL
    rw [hs]
    simp only []
    rw [g1, g2, g3]
    have e4 : lastS [y] = y := rfl
    rw [e4, if_pos rfl]
    have e5 : now - mn now y.time = now - y.time := by unfold mn; split <;> omega
    rw [e5]
    rfl

theorem fireK_none {L : Lg} (now : Int) (h : ∀ j, j < 3 → (L.sp j).timeout ≤ 0) (k : Nat) (hk : k ≤ 3) : fireK now L k = (L, fun _ => [], false) := by
  induction k with
  | zero => rfl
  | succ k ih =>
    have h1 := h k (by omega)
    rw [fireK, ih (by omega)]
    simp only []
    rw [if_neg (by omega)]
structure PB (s : Int) (i : Nat) (a : Int) (L : Lg) : Prop where
  s0 : L.sp 0 = sp0
  s1 : L.sp 1 = ⟨[mk 0 7 s], 1, 0, 0⟩
  s2 : L.sp 2 = sp0
  r : L.r = ⟨100, 50, 0, 12000, 4611686018427387903, s, 0⟩
  tries : L.tries = i
  last : L.last = a
theorem PB_timer {s a : Int} {i : Nat} {L : Lg} (h : PB s i a L) (hi : i ≤ 12) (ha : 0 ≤ a) : timerL L = (a + 300 * 2 ^ i, true) := by
  have e1 : tmAt L 3 = 0 := by simp [tmAt, h.s0, h.s1, h.s2, sp0]
  have e2 : tmAny L 3 = true := by simp [tmAny, h.s0, h.s1, h.s2, sp0]
  unfold timerL
  rw [e1, e2, if_neg (by simp), h.last, h.r, h.tries]
  have e3 : mn (i : Int) 16 = i := by unfold mn; split <;> omega
  simp only [e3]
  rfl
theorem pw (i : Nat) (hi : i ≤ 12) : 1 ≤ (2 : Int) ^ i ∧ (2 : Int) ^ i ≤ 4096 := by
  have h : i = 0 ∨ i = 1 ∨ i = 2 ∨ i = 3 ∨ i = 4 ∨ i = 5 ∨ i = 6 ∨ i = 7 ∨ i = 8 ∨ i = 9 ∨ i = 10 ∨ i = 11 ∨ i = 12 := by omega
  rcases h with rfl | rfl | rfl | rfl | rfl | rfl | rfl | rfl | rfl | rfl | rfl | rfl | rfl <;> decide
theorem PB_early {s a : Int} {i : Nat} {L : Lg} (h : PB s i a L) (hi : i ≤ 12) (ha : 0 ≤ a) : fireL (a + 300 * 2 ^ i - 1) L = (L, fun _ => [], false) := by
  unfold fireL
  rw [PB_timer h hi ha, if_pos (.inr (.inl (by show a + 300 * 2 ^ i - 1 < a + 300 * 2 ^ i; omega)))]
theorem PB_fire {s a : Int} {i : Nat} {L : Lg} (h : PB s i a L) (hi : i ≤ 12) (ha : 0 ≤ a ∧ a ≤ 100000000) : fireL (a + 300 * 2 ^ i) L = ({ L with tries := L.tries + 1, last := a + 300 * 2 ^ i }, fun _ => [], true) := by
  have hp := pw i hi
  have e3 : fireK (a + 300 * 2 ^ i) L 3 = (L, fun _ => [], false) := by
    refine fireK_none _ (fun j hj => ?_) 3 (Nat.le_refl _)
    rcases three hj with rfl | rfl | rfl
    · rw [h.s0]; decide
    · rw [h.s1]; exact Int.le_refl _
    · rw [h.s2]; decide
  unfold fireL
  rw [PB_timer h hi ha.1, e3]
  rw [if_neg (by
    rintro (h | h | h)
    · cases h
    · have h : a + 300 * 2 ^ i < a + 300 * 2 ^ i := h; omega
    · omega)]
  rfl
theorem PB_next {s a : Int} {i : Nat} {L : Lg} (h : PB s i a L) (b : Int) : PB s (i + 1) b { L with tries := L.tries + 1, last := b } :=
  ⟨h.s0, h.s1, h.s2, h.r, by show L.tries + 1 = _; rw [h.tries]; rfl, rfl⟩
theorem PB_ack {s a b : Int} {i : Nat} {L : Lg} (h : PB s i a L) (hb : 7 ≤ b) (hs : 0 ≤ s) : (ackL 1 [⟨0, 0⟩] b L).1.length = 1 ∧ (ackL 1 [⟨0, 0⟩] b L).2.2.1 = 0 ∧ timerL (ackL 1 [⟨0, 0⟩] b L).2.2.2 = (0, false) ∧ 12000 ≤ roomL (ackL 1 [⟨0, 0⟩] b L).2.2.2.r := by
  obtain ⟨e1, e2⟩ := ack_mid 1 L [] [] (mk 0 7 s) 1 0 0 b h.s1 (by show (0 : Int) < 1; decide) (fun _ hx => nomatch hx) (by show (0 : Int) ≤ 0; decide) hb
  have e1 : ackL 1 [⟨0, 0⟩] b L = _ := e1
  rw [e1]
  simp only []
  rw [e2, h.r]
  have tl : (timeR (b - (mk 0 7 s).time) ⟨100, 50, 0, 12000, 4611686018427387903, s, 0⟩).window = 12000 ∧ (timeR (b - (mk 0 7 s).time) ⟨100, 50, 0, 12000, 4611686018427387903, s, 0⟩).limit = 4611686018427387903 ∧ (timeR (b - (mk 0 7 s).time) ⟨100, 50, 0, 12000, 4611686018427387903, s, 0⟩).began = 0 ∧ (timeR (b - (mk 0 7 s).time) ⟨100, 50, 0, 12000, 4611686018427387903, s, 0⟩).flight = s := ⟨rfl, rfl, rfl, rfl⟩
  obtain ⟨r, hr⟩ : ∃ r, timeR (b - (mk 0 7 s).time) ⟨100, 50, 0, 12000, 4611686018427387903, s, 0⟩ = r := ⟨_, rfl⟩
  rw [hr] at tl ⊢
  obtain ⟨t1, t2, t3, t4⟩ := tl
  refine ⟨by simp, by simp, ?_, ?_⟩
  · obtain ⟨M, hM⟩ : ∃ M : Lg, goneL 1 b { setSp { L with r := moreR (mk 0 7 s) r } 1 ⟨[] ++ [], 1, (mk 0 7 s).pn + 1, 0⟩ with tries := 0 } = M := ⟨_, rfl⟩
    rw [hM]
    have m0 : (M.sp 0) = sp0 := by rw [← hM]; exact h.s0
    have m2 : (M.sp 2) = sp0 := by rw [← hM]; exact h.s2
    have m1 : (M.sp 1).list = [] ∧ (M.sp 1).timeout = 0 := by rw [← hM]; exact ⟨rfl, rfl⟩
    have e1 : tmAt M 3 = 0 := by simp [tmAt, m0, m1, m2, sp0]
    have e2 : tmAny M 3 = false := by simp [tmAny, m0, m1, m2, sp0]
    unfold timerL
    rw [e1, e2, if_pos (.inr rfl)]
    rfl
  · have e9 : (goneL 1 b { setSp { L with r := moreR (mk 0 7 s) r } 1 ⟨[] ++ [], 1, (mk 0 7 s).pn + 1, 0⟩ with tries := 0 }).r = moreR (mk 0 7 s) r := rfl
    rw [e9]
    unfold roomL moreR
    simp only []
    have hz : (mk 0 7 s).size = s := rfl
    have hy : (mk 0 7 s).time = 7 := rfl
    rw [hz, hy, t1, t2, t3, t4, if_neg (by omega), if_pos (by omega)]
    unfold mn
    split <;> omega

theorem arr3 {W : World} {B : Nat} {o : Nat → Value} (h : ∀ j, j < 3 → RS W B (o j) []) : ∃ A0 c0 A1 c1 A2 c2, o 0 = .slice A0 0 c0 ∧ o 1 = .slice A1 0 c1 ∧ o 2 = .slice A2 0 c2 := by
  obtain ⟨A0, c0, e0, -⟩ := row_slice (h 0 (by omega))
  obtain ⟨A1, c1, e1, -⟩ := row_slice (h 1 (by omega))
  obtain ⟨A2, c2, e2, -⟩ := row_slice (h 2 (by omega))
  exact ⟨A0, c0, A1, c1, A2, c2, e0, e1, e2⟩
set_option maxHeartbeats 4000000 in
set_option maxRecDepth 100000 in
theorem law (n s : Int) (hn0 : (Lit.int .u8 n).wf = true) (hs0 : (Lit.int .u8 s).wf = true) (w : World) : Calls Try.prog 6 #[.int .u8 n, .int .u8 s] w fun e w' => e = .returned (.bool true) ∧ Below w.heap.size w w' := by
  have hn : 0 ≤ n ∧ n < 256 := by
    simp [Lit.wf, IntKind.min, IntKind.max, IntKind.bits, IntKind.signed] at hn0
    omega
  have hs : 0 ≤ s ∧ s < 256 := by
    simp [Lit.wf, IntKind.min, IntKind.max, IntKind.bits, IntKind.signed] at hs0
    omega
  obtain ⟨n0, n1⟩ := hn
  obtain ⟨s0, s1⟩ := hs
  clear hn0 hs0
  go_enter Try.func6, Try.ntmps6
  go_wp2_with fail
  refine (awake w).mono ?_
  rintro e w1 ⟨rfl, B1⟩
  go_wp2_with fail
  refine (lw_new B1).mono ?_
  rintro e w2 ⟨p, rfl, -, H2, -⟩
  have H2 := Lib.hid H2
  clear B1
  have hws : IntKind.u64.wrap s = s := by rw [IntKind.wrap_u64]; omega
  go_wp2_with fail
  refine (lw_sent H2.out 1 (by omega) 0 7 s ⟨by omega, by omega, by omega, by omega, by omega, by omega⟩ (by decide) (by decide)).mono ?_
  rintro e w3 ⟨rfl, v3, H3, -⟩
  have H3 := Lib.hid H3
  have HP := Lib.hid (show PB s 0 7 (sentL 1 (mk 0 7 s) newL) from ⟨rfl, rfl, rfl, by show Rt.mk _ _ _ _ _ ((0 : Int) + s) _ = _; rw [Int.zero_add]; rfl, rfl, rfl⟩)
  generalize sentL 1 (mk 0 7 s) newL = L at H3 HP ⊢
  have T := timer_calls H3.out.led H3.out.inv.b
  rw [PB_timer HP.out (by omega) (by omega)] at T
  have HT := Lib.hid T
  clear T
  go_wp2_with fail
  refine HT.out.mono ?_
  rintro e w4 ⟨rfl, n4, rfl⟩
  have H4 := Lib.hid (H3.out.drewN n4)
  clear HT
  go_wp2_with fail
  obtain ⟨m, hm, hm2⟩ : ∃ m : Nat, n % 12 = (m : Int) ∧ m < 12 := ⟨(n % 12).toNat, by omega, by omega⟩
  rw [hm]
  clear hm
  go_loopw [7, 9, 38] (fun x y j wr => ∃ (k : Nat) (L : Lg) (v : Nat → Value) (a : Int), k ≤ m ∧ j = .int .u8 (k : Int) ∧ x = .int .u64 (a + 300 * 2 ^ k) ∧ y = .int .u64 (300 * 2 ^ k) ∧ 7 ≤ a ∧ a ≤ 7 + 300 * 2 ^ k ∧ Hid (LW w wr p (2 * k) L v) ∧ Hid (PB s k a L)) (fun _ _ j _ => m - (intOf j).toNat)
  case atStart => exact ⟨0, L, v3, 7, by omega, rfl, rfl, rfl, by omega, by omega, H4, HP⟩
  case round =>
    obtain ⟨k, L, v, a, hk, rfl, rfl, rfl, ha1, ha2, HL, HP⟩ := hrel
    clear H4 H3
    by_cases hkm : k < m
    · have hp := pw k (by omega)
      have F1 := lw_fire HL.out (by omega) (a + 300 * 2 ^ k - 1) ⟨by omega, by omega⟩
      rw [PB_early HP.out (by omega) (by omega)] at F1
      have HPF := Lib.hid (PB_fire HP.out (by omega) ⟨by omega, by omega⟩)
      have HPN := Lib.hid (PB_next HP.out (a + 300 * 2 ^ k))
      have pwn : (2 : Int) ^ (k + 1) = 2 * 2 ^ k := by rw [Int.pow_succ, Int.mul_comm]
      have HTN := Lib.hid (PB_timer HPN.out (by omega) (by omega))
      rw [pwn] at HTN
      obtain ⟨P, hP⟩ : ∃ P, (2 : Int) ^ k = P := ⟨_, rfl⟩
      rw [hP] at hp F1 HPF HPN HTN ha2 pwn ⊢
      have HF1 := Lib.hid F1
      have hw1 : IntKind.u64.wrap (a + 300 * P - 1) = a + 300 * P - 1 := by rw [IntKind.wrap_u64]; omega
      have hw2 : IntKind.u64.wrap (2 * (300 * P)) = 2 * (300 * P) := by rw [IntKind.wrap_u64]; omega
      have hw3 : IntKind.u64.wrap (a + 300 * P + 300 * (2 * P) - (a + 300 * P)) = 2 * (300 * P) := by rw [IntKind.wrap_u64]; omega
      clear F1 hP
      go_wp2_with fail
      refine HF1.out.mono ?_
      rintro e w5 ⟨o, v5, rfl, H5, RO, -⟩
      obtain ⟨A0, c0, A1, c1, A2, c2, e0, e1, e2⟩ := arr3 RO
      simp only [e0, e1, e2]
      have H5 := Lib.hid H5
      clear RO HF1
      go_upto_region 10 with fail
      have B6 := (Below.refl w5.heap.size w5).alloc (Nat.le_refl _) (.cells #[.slice A0 0 c0, .slice A1 0 c1, .slice A2 0 c2] 47)
      have H6 := Lib.hid (H5.out.go B6)
      generalize w5.alloc (.cells #[.slice A0 0 c0, .slice A1 0 c1, .slice A2 0 c2] 47) = w6 at H6 ⊢
      clear B6
      have F2 := lw_fire H6.out (by omega) (a + 300 * P) ⟨by omega, by omega⟩
      rw [HPF.out] at F2
      have HF2 := Lib.hid F2
      clear F2
      go_wp2_with fail
      refine HF2.out.mono ?_
      rintro e w7 ⟨o', v7, rfl, H7, RO, -⟩
      obtain ⟨A3, c3, A4, c4, A5, c5, e3, e4, e5⟩ := arr3 RO
      simp only [e3, e4, e5]
      have H7 := Lib.hid H7
      clear RO HF2 H6 H5
      go_upto_region 11 with fail
      have B8 := (Below.refl w7.heap.size w7).alloc (Nat.le_refl _) (.cells #[.slice A3 0 c3, .slice A4 0 c4, .slice A5 0 c5] 47)
      have H8 := Lib.hid (H7.out.go B8)
      have HB8 := Lib.hid (heap_alloc_new w7 (.cells #[.slice A3 0 c3, .slice A4 0 c4, .slice A5 0 c5] 47))
      generalize w7.alloc (.cells #[.slice A3 0 c3, .slice A4 0 c4, .slice A5 0 c5] 47) = w8 at H8 HB8 ⊢
      clear B8
      have T := timer_calls H8.out.led H8.out.inv.b
      rw [HTN.out] at T
      have HT := Lib.hid T
      clear T
      go_wp2_with fail
      refine HT.out.mono ?_
      rintro e w9 ⟨rfl, n9, rfl⟩
      have H9 := Lib.hid (H8.out.drewN n9)
      have HB9 := Lib.hid (blk_drewN HB8.out n9)
      clear HT H8 HB8
      generalize w8.drewN n9 = w9 at H9 HB9 ⊢
      have b0 := blk_cell HB9.out 0
      have b1 := blk_cell HB9.out 1
      have b2 := blk_cell HB9.out 2
      go_wp2_with fail
      go_roundw
      case rel => exact ⟨k + 1, _, v7, a + 300 * P, by omega, by simp, by rw [pwn], by rw [pwn]; congr 1; omega, by omega, by rw [pwn]; omega, H9.out.mono (by omega) |> Lib.hid, HPN⟩
      case measure => simp [intOf]; omega
    · have e : k = m := by omega
      subst e
      have hp := pw k (by omega)
      have AK := PB_ack HP.out (b := a + 300 * 2 ^ k) (by omega) (by omega)
      have LA := lw_one (HL.out.go ((Below.refl _ _).alloc (Nat.le_refl _) _)) (by omega) 1 (by omega) (a + 300 * 2 ^ k) ⟨by omega, by omega⟩ wr.heap.size 1 ⟨0, 0⟩ (heap_alloc_new wr (.cells #[.int .u64 0, .int .u64 0] 35)) ⟨by decide, by decide, by decide, by decide⟩
      obtain ⟨P, hP⟩ : ∃ P, (2 : Int) ^ k = P := ⟨_, rfl⟩
      rw [hP] at hp ha2 AK LA ⊢
      obtain ⟨t, ht⟩ : ∃ t, ackL 1 [⟨0, 0⟩] (a + 300 * P) L = t := ⟨_, rfl⟩
      rw [ht] at AK LA
      obtain ⟨k1, k2, k3, k4⟩ := AK
      rw [k2] at LA
      have HLA := Lib.hid LA
      clear LA hP ht
      go_wp2_with fail
      refine HLA.out.mono ?_
      rintro e w5 ⟨va, vl, v5, rfl, H5, RA, RL, -⟩
      obtain ⟨A1, c1, e1, -⟩ := row_slice RA
      obtain ⟨A2, c2, e2, -⟩ := row_slice RL
      rw [k1] at e1
      subst e1 e2
      have H5 := Lib.hid H5
      clear RA RL HLA
      have T := timer_calls H5.out.led H5.out.inv.b
      rw [k3] at T
      have HT := Lib.hid T
      clear T
      go_wp2_with fail
      refine HT.out.mono ?_
      rintro e w6 ⟨rfl, n6, rfl⟩
      have H6 := Lib.hid (H5.out.drewN n6)
      clear HT
      have RO := room_calls H6.out.led H6.out.inv.b.r
      obtain ⟨ro, hro⟩ : ∃ ro, roomL t.2.2.2.r = ro := ⟨_, rfl⟩
      rw [hro] at RO k4
      have HRO := Lib.hid RO
      clear RO
      go_wp2_with fail
      refine HRO.out.mono ?_
      rintro e w7 ⟨rfl, n7, rfl⟩
      have H7 := Lib.hid (H6.out.drewN n7)
      go_wp2_with fail
      all_goals go_ret
      all_goals first
        | exact ⟨rfl, H7.out.below⟩
        | exact ⟨rfl, (H5.out.drewN (n6 + n7)).below⟩
end Go.Proofs.Ytgdboikoejodpaa.LossProbes
