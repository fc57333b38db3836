/- The law LossThree. -/
import Derived.Test.YtgdboikoejodpaaLossProbes
namespace Go.Proofs.Ytgdboikoejodpaa.LossThree
open Go Go.RowKit Go.Proofs.YtgdboikoejodpaaW.PrintWords Go.Proofs.YtgdboikoejodpaaW.PrintLast Go.Proofs.YtgdboikoejodpaaW.PrintMore Go.Proofs.Ytgdboikoejodpaa.Keep Go.Proofs.Ytgdboikoejodpaa.Led Go.Proofs.Ytgdboikoejodpaa.Rate Go.Proofs.Ytgdboikoejodpaa.Rd Go.Proofs.Ytgdboikoejodpaa.Timer Go.Proofs.Ytgdboikoejodpaa.LedSp Go.Proofs.Ytgdboikoejodpaa.Drop Go.Proofs.Ytgdboikoejodpaa.In Go.Proofs.Ytgdboikoejodpaa.Split Go.Proofs.Ytgdboikoejodpaa.GoneP Go.Proofs.Ytgdboikoejodpaa.Gone Go.Proofs.Ytgdboikoejodpaa.AckP Go.Proofs.Ytgdboikoejodpaa.Ack Go.Proofs.Ytgdboikoejodpaa.Clone Go.Proofs.Ytgdboikoejodpaa.Sent Go.Proofs.Ytgdboikoejodpaa.Inv Go.Proofs.Ytgdboikoejodpaa.Fire Go.Proofs.Ytgdboikoejodpaa.Law Go.Proofs.Ytgdboikoejodpaa.LossWindow Go.Proofs.Ytgdboikoejodpaa.LossProbes
attribute [local go_sem] max2_int min2_int max_two min_two max_three min_three max_four min_four
set_option linter.unusedVariables false

def row (t s : Int) (m : Nat) : List S := (List.range m).map fun (j : Nat) => mk (j : Int) t s
theorem row_succ (t s : Int) (m : Nat) : row t s (m + 1) = row t s m ++ [mk (m : Int) t s] := by simp [row, List.range_succ]
theorem row_len (t s : Int) (m : Nat) : (row t s m).length = m := by simp [row]
theorem row_mem {t s : Int} {m : Nat} {x : S} (h : x ∈ row t s m) : ∃ j : Nat, j < m ∧ x = mk (j : Int) t s := by
  unfold row at h
  rw [List.mem_map] at h
  obtain ⟨j, hj, rfl⟩ := h
  exact ⟨j, List.mem_range.1 hj, rfl⟩
theorem row_get (t s : Int) (m k : Nat) (h : k < m) : (row t s m)[k]'(by rw [row_len]; exact h) = mk (k : Int) t s := by simp [row]
theorem row_rd (t s : Int) (m k : Nat) (h : k < m) : rdS (row t s m) (k : Int) = mk (k : Int) t s := by
  rw [rdS_in (by rw [row_len]; exact h), row_get t s m k h]
theorem row_take (t s : Int) (m k : Nat) (h : k ≤ m) : (row t s m).take k = row t s k := by
  unfold row
  rw [← List.map_take, List.take_range]
  congr 2
  omega
theorem row_filter (t s : Int) (m c : Nat) : (row t s m).filter (fun x => decide (x.pn < (c : Int))) = row t s (min m c) := by
  induction m with
  | zero => simp [row]
  | succ m ih =>
    rw [row_succ, List.filter_append, ih]
    by_cases h : m < c
    · have d : decide ((mk (m : Int) t s).pn < (c : Int)) = true := by simp [mk]; omega
      simp only [List.filter, d]
      rw [show min (m + 1) c = m + 1 by omega, show min m c = m by omega, row_succ]
    · have d : decide ((mk (m : Int) t s).pn < (c : Int)) = false := by simp [mk]; omega
      simp only [List.filter, d]
      rw [show min (m + 1) c = c by omega, show min m c = c by omega]
      simp
theorem row_split (t s : Int) (m k : Nat) (h : k < m) : row t s m = row t s k ++ mk (k : Int) t s :: (row t s m).drop (k + 1) := by
  have e1 : row t s m = (row t s m).take k ++ (row t s m).drop k := (List.take_append_drop k _).symm
  have e2 : (row t s m).drop k = mk (k : Int) t s :: (row t s m).drop (k + 1) := by
    rw [List.drop_eq_getElem_cons (by rw [row_len]; exact h), row_get t s m k h]
  rw [e2, row_take t s m k (by omega)] at e1
  exact e1
theorem row_drop {t s : Int} {m k : Nat} {x : S} (h : x ∈ (row t s m).drop k) : ∃ j : Nat, k ≤ j ∧ j < m ∧ x = mk (j : Int) t s := by
  unfold row at h
  rw [← List.map_drop, List.mem_map] at h
  obtain ⟨j, hj, rfl⟩ := h
  obtain ⟨i, hi, e⟩ := List.getElem_of_mem hj
  rw [List.getElem_drop, List.getElem_range] at e
  simp only [List.length_drop, List.length_range] at hi
  exact ⟨j, by omega, by omega, rfl⟩
theorem row_sum (t s : Int) (m : Nat) : sumS (row t s m) = s * m := by
  induction m with
  | zero => simp [row, sumS]
  | succ m ih =>
    rw [row_succ, sumS_append, ih]
    simp only [sumS, mk, Int.add_zero, Int.natCast_add, Int.mul_add]
    simp

theorem timer_snd (L : Lg) : (timerL L).2 = (decide (0 < tmAt L 3) || tmAny L 3) := by
  unfold timerL
  split
  · rename_i h
    rcases h with h | h
    · simp [h]
    · simp [h]
  · rename_i h
    simp only [not_or, Bool.not_eq_false] at h
    simp [h.2]
/-- A timeout is of one that stays. -/
theorem gone_t (acked now : Int) (l : List S) (g : G) (h : g.stay = [] → g.t = 0) : (l.foldl (gstep acked now) g).stay = [] → (l.foldl (gstep acked now) g).t = 0 := by
  induction l generalizing g with
  | nil => exact h
  | cons x l ih =>
    refine ih _ ?_
    unfold gstep
    split
    · intro e; simp at e
    · split
      · exact h
      · intro e; simp at e

structure PT (m : Nat) (L : Lg) : Prop where
  s0 : L.sp 0 = sp0
  s1 : L.sp 1 = sp0
  s2 : L.sp 2 = ⟨row 5 100 m, m, 0, 0⟩
  la : L.r.latest = 0
theorem PT_step {m : Nat} {L : Lg} (h : PT m L) : PT (m + 1) (sentL 2 (mk (m : Int) 5 100) L) := by
  refine ⟨h.s0, h.s1, ?_, h.la⟩
  unfold sentL
  rw [h.s2, row_succ]
  rfl
/-- Behind the two acknowledgements. -/
theorem PT_ack {m k : Nat} {L : Lg} (h : PT m L) (hk : k < m) : ∃ L5, ackL 2 [⟨(k : Int), (k : Int)⟩] 205 L = ([mk (k : Int) 5 100], row 5 100 (k - 2), 0, L5) ∧ ∃ L6, ackL 2 [⟨(k : Int), (k : Int)⟩] 205 L5 = ([], [], 0, L6) ∧ (timerL L6).2 = decide (0 < m - 1 - (k - 2)) := by
  have hs : L.sp 2 = ⟨row 5 100 k ++ mk (k : Int) 5 100 :: (row 5 100 m).drop (k + 1), m, 0, 0⟩ := by rw [h.s2, ← row_split 5 100 m k hk]
  have hne : ∀ x ∈ row 5 100 k ++ (row 5 100 m).drop (k + 1), x.pn ≠ (k : Int) := by
    intro x hx
    rcases List.mem_append.1 hx with hx | hx
    · obtain ⟨j, hj, rfl⟩ := row_mem hx
      show (j : Int) ≠ k; omega
    · obtain ⟨j, hj, hj2, rfl⟩ := row_drop hx
      show (j : Int) ≠ k; omega
  obtain ⟨e1, e2⟩ := ack_mid 2 L (row 5 100 k) ((row 5 100 m).drop (k + 1)) (mk (k : Int) 5 100) _ _ _ 205 hs (by show (k : Int) < m; omega) hne (by show (0 : Int) ≤ k; omega) (by show (5 : Int) ≤ 205; decide)
  have e1 : ackL 2 [⟨(k : Int), (k : Int)⟩] 205 L = _ := e1
  rw [e2] at e1
  have tl : (timeR (205 - (mk (k : Int) 5 100).time) L.r).latest = 200 ∧ (timeR (205 - (mk (k : Int) 5 100).time) L.r).smooth = 200 := by
    unfold timeR
    rw [if_pos h.la]
    exact ⟨rfl, rfl⟩
  obtain ⟨r, hr⟩ : ∃ r, moreR (mk (k : Int) 5 100) (timeR (205 - (mk (k : Int) 5 100).time) L.r) = r := ⟨_, rfl⟩
  have pr : patR r = 225 := by
    rw [← hr]
    show mx (mx (timeR (205 - (mk (k : Int) 5 100).time) L.r).smooth (timeR (205 - (mk (k : Int) 5 100).time) L.r).latest * 9 / 8) 1 = 225
    rw [tl.1, tl.2]; rfl
  rw [hr] at e1
  obtain ⟨M, hM⟩ : ∃ M : Lg, { setSp { L with r := r } 2 ⟨row 5 100 k ++ (row 5 100 m).drop (k + 1), m, (mk (k : Int) 5 100).pn + 1, 0⟩ with tries := 0 } = M := ⟨_, rfl⟩
  rw [hM] at e1
  have m2 : M.sp 2 = ⟨row 5 100 k ++ (row 5 100 m).drop (k + 1), m, (k : Int) + 1, 0⟩ := by rw [← hM]; rfl
  have m0 : M.sp 0 = sp0 := by rw [← hM]; exact h.s0
  have m1 : M.sp 1 = sp0 := by rw [← hM]; exact h.s1
  have mr : M.r = r := by rw [← hM]; rfl
  have ht : ∀ x ∈ row 5 100 k ++ (row 5 100 m).drop (k + 1), x.time = 5 := by
    intro x hx
    rcases List.mem_append.1 hx with hx | hx
    · obtain ⟨j, hj, rfl⟩ := row_mem hx; rfl
    · obtain ⟨j, hj, hj2, rfl⟩ := row_drop hx; rfl
  obtain ⟨f1, f2⟩ := gone_split ((k : Int) + 1) 205 (row 5 100 k ++ (row 5 100 m).drop (k + 1)) ⟨[], [], r, 0⟩ (fun x hx _ => .inr (by show (205 : Int) < x.time + patR r; rw [pr, ht x hx]; decide))
  have f3 := gone_t ((k : Int) + 1) 205 (row 5 100 k ++ (row 5 100 m).drop (k + 1)) ⟨[], [], r, 0⟩ (fun _ => rfl)
  have gg : goneG (M.sp 2).acked 205 (M.sp 2).list M.r = (row 5 100 k ++ (row 5 100 m).drop (k + 1)).foldl (gstep ((k : Int) + 1) 205) ⟨[], [], r, 0⟩ := by rw [m2, mr]; rfl
  rw [← gg] at f1 f2 f3
  simp only [List.nil_append] at f1 f2
  have hfil : (row 5 100 k ++ (row 5 100 m).drop (k + 1)).filter (fun x => decide (x.pn + 3 < (k : Int) + 1)) = row 5 100 (k - 2) := by
    rw [List.filter_append]
    have a1 : ((row 5 100 m).drop (k + 1)).filter (fun x => decide (x.pn + 3 < (k : Int) + 1)) = [] := by
      rw [List.filter_eq_nil_iff]
      intro x hx
      obtain ⟨j, hj, hj2, rfl⟩ := row_drop hx
      intro h
      have h : (j : Int) + 3 < (k : Int) + 1 := of_decide_eq_true h
      omega
    have a2 : (fun x : S => decide (x.pn + 3 < (k : Int) + 1)) = (fun x : S => decide (x.pn < ((k - 2 : Nat) : Int))) ∨ k < 2 := by
      by_cases h2 : k < 2
      · exact .inr h2
      · refine .inl ?_
        funext x
        congr 1
        simp only [eq_iff_iff]
        omega
    rw [a1, List.append_nil]
    rcases a2 with a2 | a2
    · rw [a2, row_filter]
      congr 1; omega
    · rw [show k - 2 = 0 by omega]
      show _ = []
      rw [List.filter_eq_nil_iff]
      intro x hx
      obtain ⟨j, hj, rfl⟩ := row_mem hx
      intro h
      have h : (j : Int) + 3 < (k : Int) + 1 := of_decide_eq_true h
      omega
  have lo : goneO 2 205 M = row 5 100 (k - 2) := by
    show (goneG (M.sp 2).acked 205 (M.sp 2).list M.r).lost = _
    rw [f1, hfil]
  rw [lo] at e1
  refine ⟨_, e1, ?_⟩
  obtain ⟨st, hst⟩ : ∃ st, (goneG (M.sp 2).acked 205 (M.sp 2).list M.r).stay = st := ⟨_, rfl⟩
  obtain ⟨t, htt⟩ : ∃ t, (goneG (M.sp 2).acked 205 (M.sp 2).list M.r).t = t := ⟨_, rfl⟩
  rw [hst] at f2 f3
  rw [htt] at f3
  have stl : st.length = m - 1 - (k - 2) := by
    have h1 : (row 5 100 k ++ (row 5 100 m).drop (k + 1)).length = m - 1 := by simp [row_len]; omega
    have h2 : ∀ (l : List S) (f : S → Bool), (l.filter f).length + (l.filter fun x => !f x).length = l.length := by
      intro l f
      induction l with
      | nil => rfl
      | cons x l ih => cases h : f x <;> simp [List.filter, h] <;> omega
    have h3 := h2 (row 5 100 k ++ (row 5 100 m).drop (k + 1)) (fun x => decide (x.pn + 3 < (k : Int) + 1))
    rw [hfil, row_len, h1] at h3
    rw [f2]
    omega
  have st2 : (goneL 2 205 M).sp 2 = ⟨st, m, (k : Int) + 1, t⟩ := by
    show Sp.mk (goneG (M.sp 2).acked 205 (M.sp 2).list M.r).stay (M.sp 2).next (M.sp 2).acked (goneG (M.sp 2).acked 205 (M.sp 2).list M.r).t = _
    rw [hst, htt, m2]
  have st0 : (goneL 2 205 M).sp 0 = sp0 := m0
  have st1 : (goneL 2 205 M).sp 1 = sp0 := m1
  have g0 : gotL [⟨(k : Int), (k : Int)⟩] st = [] := by
    unfold gotL
    rw [List.filter_eq_nil_iff]
    intro x hx
    rw [f2] at hx
    have := hne x (List.mem_filter.1 hx).1
    simp [inQ]; omega
  generalize goneL 2 205 M = L5 at st0 st1 st2 ⊢
  refine ⟨setSp L5 2 { L5.sp 2 with acked := topQ [⟨(k : Int), (k : Int)⟩] (L5.sp 2).acked }, ?_, ?_⟩
  · unfold ackL
    rw [st2]
    simp only []
    rw [g0, if_neg (by simp [okQ]; omega), if_pos rfl]
  · rw [timer_snd]
    generalize topQ [⟨(k : Int), (k : Int)⟩] (L5.sp 2).acked = tq
    have q0 : (setSp L5 2 { L5.sp 2 with acked := tq }).sp 0 = sp0 := st0
    have q1 : (setSp L5 2 { L5.sp 2 with acked := tq }).sp 1 = sp0 := st1
    have q2 : (setSp L5 2 { L5.sp 2 with acked := tq }).sp 2 = ⟨st, m, tq, t⟩ := by rw [setSp_same, st2]
    simp only [tmAt, tmAny, q0, q1, q2, sp0]
    by_cases hz : st = []
    · have := f3 hz
      rw [this, ← stl, hz]; simp
    · have hp : 0 < st.length := List.length_pos_iff.2 hz
      rw [← stl]
      simp [hp]

set_option maxHeartbeats 4000000 in
set_option maxRecDepth 100000 in
theorem law (n tp : Int) (hn0 : (Lit.int .u8 n).wf = true) (hs0 : (Lit.int .u8 tp).wf = true) (w : World) : Calls Try.prog 4 #[.int .u8 n, .int .u8 tp] w fun e w' => e = .returned (.bool true) ∧ Below w.heap.size w w' := by
  have hn : 0 ≤ n ∧ n < 256 := by
    simp [Lit.wf, IntKind.min, IntKind.max, IntKind.bits, IntKind.signed] at hn0
    omega
  have hs : 0 ≤ tp ∧ tp < 256 := by
    simp [Lit.wf, IntKind.min, IntKind.max, IntKind.bits, IntKind.signed] at hs0
    omega
  obtain ⟨n0, n1⟩ := hn
  obtain ⟨s0, s1⟩ := hs
  clear hn0 hs0
  obtain ⟨m, hm, hm2⟩ : ∃ m : Nat, n % 40 + 1 = (m : Int) ∧ m ≤ 40 := ⟨(n % 40 + 1).toNat, by omega, by omega⟩
  have hm1 : 1 ≤ m := by omega
  obtain ⟨k, hk, hk2⟩ : ∃ k : Nat, tp % (m : Int) = (k : Int) ∧ k < m := ⟨(tp % (m : Int)).toNat, by have := Int.emod_nonneg tp (b := (m : Int)) (by omega); omega, by have := Int.emod_nonneg tp (b := (m : Int)) (by omega); have := Int.emod_lt_of_pos tp (b := (m : Int)) (by omega); omega⟩
  have hwn : IntKind.u64.wrap (n % 40) = n % 40 := by rw [IntKind.wrap_u64]; omega
  have hwn2 : IntKind.u64.wrap (n % 40 + 1) = m := by rw [IntKind.wrap_u64]; omega
  have hwt : IntKind.u64.wrap tp = tp := by rw [IntKind.wrap_u64]; omega
  go_enter Try.func4, Try.ntmps4
  go_wp2_with fail
  refine (awake w).mono ?_
  rintro e w1 ⟨rfl, B1⟩
  go_wp2_with fail
  refine (lw_new B1).mono ?_
  rintro e w2 ⟨p, rfl, -, H2, -⟩
  have H2 := Lib.hid H2
  clear B1
  go_wp2_with fail
  clear hwn hwn2 hm n0 n1
  go_loopw [27] (fun j wr => ∃ (i : Nat) (L : Lg) (v : Nat → Value), i ≤ m ∧ j = .int .u64 (i : Int) ∧ Hid (LW w wr p 0 L v) ∧ Hid (PT i L)) (fun j _ => m - (intOf j).toNat)
  case atStart => exact ⟨0, newL, v0, by omega, rfl, H2, Lib.hid ⟨rfl, rfl, rfl, rfl⟩⟩
  case round =>
    obtain ⟨i, L, v, hi, rfl, HL, HP⟩ := hrel
    clear H2
    by_cases him : i < m
    · go_wp2_with fail
      refine (lw_sent HL.out 2 (by omega) (i : Int) 5 100 ⟨by omega, by omega, by omega, by omega, by omega, by omega⟩ (by rw [HP.out.s2]; exact Int.le_refl _) (by rw [HP.out.s2, row_len]; omega)).mono ?_
      rintro e w3 ⟨rfl, v3, H3, -⟩
      have H3 := Lib.hid H3
      have HP3 := Lib.hid (PT_step HP.out)
      go_wp2_with fail
      go_roundw
      case rel => exact ⟨i + 1, _, _, by omega, by simp, H3, HP3⟩
      case measure => simp [intOf]; omega
    · have e : i = m := by omega
      subst e
      obtain ⟨L5, e5, L6, e6, t6⟩ := PT_ack HP.out hk2
      have LA := lw_one (HL.out.go ((Below.refl _ _).alloc (Nat.le_refl _) _)) (by omega) 2 (by omega) 205 ⟨by omega, by omega⟩ wr.heap.size 1 ⟨(k : Int), (k : Int)⟩ (heap_alloc_new wr (.cells #[.int .u64 (k : Int), .int .u64 (k : Int)] 35)) ⟨by show 0 ≤ (k : Int); omega, by show (k : Int) < _; omega, by show 0 ≤ (k : Int); omega, by show (k : Int) < _; omega⟩
      rw [e5] at LA
      have HLA := Lib.hid LA
      have HE6 := Lib.hid e6
      have HT6 := Lib.hid t6
      have hmz : ((i : Int) = 0) = False := eq_false (by omega)
      have hrk : tp.tmod (i : Int) = (k : Int) := by rw [Int.tmod_eq_emod_of_nonneg s0]; exact hk
      clear LA e5 e6 t6 HP
      go_wp2_with fail
      refine HLA.out.mono ?_
      rintro e w4 ⟨va, vl, v4, rfl, H4, RA, RL, -⟩
      obtain ⟨A1, c1, e1, hX1⟩ := row_slice RA
      obtain ⟨A2, c2, e2, -⟩ := row_slice RL
      rw [row_len] at e2
      subst e1 e2
      obtain ⟨ad, eA, j0, -⟩ := at_S hX1 0 (by simp)
      subst eA
      have j0 : w4.cell? ad = some (.int .u64 (k : Int)) := by have e : ad.add (0 * 5) = ad := by simp [Addr.add]
                                                               rw [e] at j0; exact j0
      have H4 := Lib.hid H4
      have HRL := Lib.hid RL
      clear RA RL hX1 HLA
      simp only [List.length_cons, List.length_nil, Nat.zero_add]
      obtain ⟨q, hq⟩ : ∃ q : Nat, k - 2 = q := ⟨_, rfl⟩
      rw [hq] at HRL HT6 ⊢
      have hwq : IntKind.u64.wrap (q : Int) = q := by rw [IntKind.wrap_u64]; omega
      go_upto_region 13 with fail
      go_cut [74] from 75 (fun b wc => b = .bool false ∧ wc = w4)
      case first =>
        by_cases hk3 : k < 2
        · have hq0 : q = 0 := by omega
          subst hq0
          go_wp2_with fail
          all_goals (go_meet; case rel => exact ⟨by first | rfl | (congr 1; simp; omega), rfl⟩)
        · have hw2 : IntKind.u64.wrap ((k : Int) - 2) = q := by rw [IntKind.wrap_u64]; omega
          go_wp2_with fail
          all_goals (go_meet; case rel => exact ⟨by first | rfl | (congr 1; simp; omega), rfl⟩)
      case rest =>
        obtain ⟨rfl, rfl⟩ := hcut
        clear j0
        go_wp2_with fail
        go_loopw [77] (fun j wr => ∃ (y : Nat), y ≤ q ∧ j = .int .i64 (y : Int) ∧ Hid (Below wc.heap.size wc wr)) (fun j _ => q - (intOf j).toNat)
        case atStart => exact ⟨0, by omega, rfl, Lib.hid (Below.refl _ _)⟩
        case round =>
          obtain ⟨y, hy, rfl, HB⟩ := hrel
          by_cases hyq : y < q
          · have RLr := RS_move HRL.out (fun b hb => HB.out.block b (RS_bound HRL.out b hb).2)
            obtain ⟨A3, eA, j0, j1, j2, j3, j4⟩ := at_S (row_slice' RLr) y (by rw [row_len]; exact hyq)
            cases eA
            rw [row_rd 5 100 q y hyq] at j0 j1 j2 j3 j4
            simp only [mk] at j0 j1 j2 j3 j4
            have hwy : IntKind.u64.wrap (y : Int) = y := by rw [IntKind.wrap_u64]; omega
            go_wp2_with fail
            go_roundw
            case rel => exact ⟨y + 1, by omega, by simp, Lib.hid (HB.out.trans (((Below.refl wr.heap.size wr).alloc (Nat.le_refl _) _).mono HB.out.size))⟩
            case measure => simp [intOf]; omega
          · have e : y = q := by omega
            subst e
            have H5 := Lib.hid (H4.out.go HB.out)
            have LA := lw_one (H5.out.go ((Below.refl _ _).alloc (Nat.le_refl _) _)) (by omega) 2 (by omega) 205 ⟨by omega, by omega⟩ wr.heap.size 1 ⟨(k : Int), (k : Int)⟩ (heap_alloc_new wr (.cells #[.int .u64 (k : Int), .int .u64 (k : Int)] 35)) ⟨by show 0 ≤ (k : Int); omega, by show (k : Int) < _; omega, by show 0 ≤ (k : Int); omega, by show (k : Int) < _; omega⟩
            rw [HE6.out] at LA
            have HLA := Lib.hid LA
            clear LA
            go_wp2_with fail
            refine HLA.out.mono ?_
            rintro e w6 ⟨va, vl, v6, rfl, H6, RA, RL, -⟩
            obtain ⟨A5, c5, e5, -⟩ := row_slice RA
            obtain ⟨A6, c6, e6, -⟩ := row_slice RL
            have e5 : va = .slice A5 0 c5 := e5
            have e6 : vl = .slice A6 0 c6 := e6
            subst e5 e6
            have H6 := Lib.hid H6
            clear RA RL HLA
            have T := timer_calls H6.out.led H6.out.inv.b
            rw [HT6.out] at T
            obtain ⟨ta, hta⟩ : ∃ ta, (timerL L6).1 = ta := ⟨_, rfl⟩
            rw [hta] at T
            have HT := Lib.hid T
            clear T
            go_wp2_with fail
            refine HT.out.mono ?_
            rintro e w7 ⟨rfl, n7, rfl⟩
            have H7 := Lib.hid (H6.out.drewN n7)
            have hw1 : IntKind.u64.wrap ((i : Int) - 1) = (i : Int) - 1 := by rw [IntKind.wrap_u64]; omega
            have hw2 : IntKind.u64.wrap ((i : Int) - 1 - (y : Int)) = (i : Int) - 1 - (y : Int) := by rw [IntKind.wrap_u64]; omega
            have hwy : IntKind.u64.wrap (y : Int) = y := by rw [IntKind.wrap_u64]; omega
            by_cases hz : 0 < i - 1 - y
            · have d1 : decide (0 < i - 1 - y) = true := by simp; omega
              have d2 : decide ((i : Int) - 1 - (y : Int) > 0) = true := by simp; omega
              rw [d1]
              go_wp2_with fail
              all_goals go_ret
              all_goals exact ⟨by show Ending.returned (.bool (decide ((y : Int) < (i : Int) - 1))) = _; rw [decide_eq_true (by omega)], H7.out.below⟩
            · have d1 : decide (0 < i - 1 - y) = false := by simp; omega
              have d2 : decide ((i : Int) - 1 - (y : Int) > 0) = false := by simp; omega
              rw [d1]
              go_wp2_with fail
              all_goals go_ret
              all_goals exact ⟨by show Ending.returned (.bool (!decide ((y : Int) < (i : Int) - 1))) = _; rw [decide_eq_false (by omega)]; rfl, H7.out.below⟩
end Go.Proofs.Ytgdboikoejodpaa.LossThree
