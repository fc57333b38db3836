/- The law LossWindow: what is computed, plainly; the walk. -/
import Derived.Test.YtgdboikoejodpaaLaw
namespace Go.Proofs.Ytgdboikoejodpaa.LossWindow
open Go Go.RowKit Go.Proofs.YtgdboikoejodpaaW.PrintWords Go.Proofs.YtgdboikoejodpaaW.PrintLast Go.Proofs.YtgdboikoejodpaaW.PrintMore Go.Proofs.Ytgdboikoejodpaa.Keep Go.Proofs.Ytgdboikoejodpaa.Led Go.Proofs.Ytgdboikoejodpaa.Rate Go.Proofs.Ytgdboikoejodpaa.Rd Go.Proofs.Ytgdboikoejodpaa.Timer Go.Proofs.Ytgdboikoejodpaa.LedSp Go.Proofs.Ytgdboikoejodpaa.Drop Go.Proofs.Ytgdboikoejodpaa.In Go.Proofs.Ytgdboikoejodpaa.Split Go.Proofs.Ytgdboikoejodpaa.GoneP Go.Proofs.Ytgdboikoejodpaa.Gone Go.Proofs.Ytgdboikoejodpaa.AckP Go.Proofs.Ytgdboikoejodpaa.Ack Go.Proofs.Ytgdboikoejodpaa.Clone Go.Proofs.Ytgdboikoejodpaa.Sent Go.Proofs.Ytgdboikoejodpaa.Inv Go.Proofs.Ytgdboikoejodpaa.Fire Go.Proofs.Ytgdboikoejodpaa.Law
set_option linter.unusedVariables false

theorem lessR_pat (x : S) (now : Int) (r : Rt) : patR (lessR x now r) = patR r := by
  unfold lessR patR; split <;> rfl
/-- Where none is too old: those are lost that were sent more than three behind. -/
theorem gone_split (acked now : Int) (l : List S) (g : G) (hl : ∀ x ∈ l, x.pn < acked → (x.pn + 3 < acked ∨ now < x.time + patR g.r)) :
    (l.foldl (gstep acked now) g).lost = g.lost ++ l.filter (fun x => decide (x.pn + 3 < acked)) ∧ (l.foldl (gstep acked now) g).stay = g.stay ++ l.filter (fun x => !decide (x.pn + 3 < acked)) := by
  induction l generalizing g with
  | nil => simp
  | cons x l ih =>
    have hx := hl x (List.mem_cons_self ..)
    rw [List.foldl_cons]
    by_cases c1 : acked ≤ x.pn
    · have e : gstep acked now g x = { g with stay := g.stay ++ [x] } := by unfold gstep; rw [if_pos c1]
      rw [e]
      obtain ⟨h1, h2⟩ := ih { g with stay := g.stay ++ [x] } (fun y hy => hl y (List.mem_cons_of_mem _ hy))
      have d : decide (x.pn + 3 < acked) = false := by simp; omega
      rw [h1, h2]
      simp [List.filter, d]
    · by_cases c2 : x.pn + 3 < acked
      · have e : gstep acked now g x = { g with lost := g.lost ++ [x], r := lessR x now g.r } := by unfold gstep; rw [if_neg c1, if_pos (.inl c2)]
        rw [e]
        obtain ⟨h1, h2⟩ := ih { g with lost := g.lost ++ [x], r := lessR x now g.r } (fun y hy hp => by
          have := hl y (List.mem_cons_of_mem _ hy) hp
          simp only [lessR_pat]; exact this)
        have d : decide (x.pn + 3 < acked) = true := by simp [c2]
        rw [h1, h2]
        simp [List.filter, d]
      · have e3 := hx (by omega)
        have c3 : ¬ (x.pn + 3 < acked ∨ x.time + patR g.r ≤ now) := by omega
        have e : gstep acked now g x = { g with stay := g.stay ++ [x], t := if g.t = 0 ∨ x.time + patR g.r < g.t then x.time + patR g.r else g.t } := by unfold gstep; rw [if_neg c1, if_neg c3]
        rw [e]
        obtain ⟨h1, h2⟩ := ih { g with stay := g.stay ++ [x], t := if g.t = 0 ∨ x.time + patR g.r < g.t then x.time + patR g.r else g.t } (fun y hy => hl y (List.mem_cons_of_mem _ hy))
        have d : decide (x.pn + 3 < acked) = false := by simp; omega
        rw [h1, h2]
        simp [List.filter, d]
/-- The window behind: halved once. -/
theorem gone_win (acked now W : Int) (l : List S) (g : G) (hl : ∀ x ∈ l, 0 ≤ x.time ∧ x.time ≤ now) (hg : (g.r.began = 0 ∧ g.r.window = W ∧ g.lost = []) ∨ (g.r.began = now + 1 ∧ g.r.window = mx (W / 2) 2400 ∧ g.lost ≠ [])) :
    ((l.foldl (gstep acked now) g).r.window = W ∧ (l.foldl (gstep acked now) g).lost = []) ∨ ((l.foldl (gstep acked now) g).r.window = mx (W / 2) 2400 ∧ (l.foldl (gstep acked now) g).lost ≠ []) := by
  induction l generalizing g with
  | nil =>
    rcases hg with ⟨-, h2, h3⟩ | ⟨-, h2, h3⟩
    · exact .inl ⟨h2, h3⟩
    · exact .inr ⟨h2, h3⟩
  | cons x l ih =>
    have hx := hl x (List.mem_cons_self ..)
    refine ih _ (fun y hy => hl y (List.mem_cons_of_mem _ hy)) ?_
    unfold gstep
    split
    · exact hg
    · split
      · refine .inr ?_
        unfold lessR
        rcases hg with ⟨h1, h2, h3⟩ | ⟨h1, h2, h3⟩
        · rw [if_pos (by omega)]
          refine ⟨rfl, ?_, by simp⟩
          show mx (g.r.window / 2) 2400 = _
          rw [h2]
        · rw [if_neg (by omega)]
          exact ⟨h1, h2, by simp⟩
      · exact hg

structure PW (k : Nat) (L : Lg) : Prop where
  s0 : L.sp 0 = ⟨[], k, k, 0⟩
  s1 : (L.sp 1).list = []
  s2 : (L.sp 2).list = []
  w : L.r.window = 12000 + 1000 * k
  li : L.r.limit = 4611686018427387903
  be : L.r.began = 0
  la : (k = 0 ∧ L.r.latest = 0) ∨ (L.r.latest = 10 ∧ L.r.smooth = 10)
theorem PW.flight {k n : Nat} {L : Lg} (h : PW k L) (hN : LgN n L) : L.r.flight = 0 := by rw [hN.t, h.s0, h.s1, h.s2]; rfl
theorem time10 {r : Rt} (h : r.latest = 0 ∨ (r.latest = 10 ∧ r.smooth = 10)) : (timeR 10 r).latest = 10 ∧ (timeR 10 r).smooth = 10 ∧ (timeR 10 r).window = r.window ∧ (timeR 10 r).limit = r.limit ∧ (timeR 10 r).began = r.began := by
  unfold timeR
  rcases h with h | ⟨h1, h2⟩
  · rw [if_pos h]; exact ⟨rfl, rfl, rfl, rfl, rfl⟩
  · rw [if_neg (by omega)]
    refine ⟨rfl, ?_, rfl, rfl, rfl⟩
    show (7 * r.smooth + mx 10 1) / 8 = 10
    rw [h2]; rfl
/-- A packet is acknowledged that was sent last, of some. -/
theorem ack_last (L : Lg) (l : List S) (y : S) (nx ac to2 now : Int) (hs : L.sp 0 = ⟨l ++ [y], nx, ac, to2⟩) (hy : y.pn < nx) (hl : ∀ x ∈ l, x.pn < y.pn) (ha : ac ≤ y.pn) (ht : y.time ≤ now) :
    ackL 0 [⟨y.pn, y.pn⟩] now L = ([y], goneO 0 now (midL 0 [⟨y.pn, y.pn⟩] now L), 0, goneL 0 now (midL 0 [⟨y.pn, y.pn⟩] now L)) ∧ midL 0 [⟨y.pn, y.pn⟩] now L = { setSp { L with r := moreR y (timeR (now - y.time) L.r) } 0 ⟨l, nx, y.pn + 1, to2⟩ with tries := 0 } := by
  have g1 : gotL [⟨y.pn, y.pn⟩] (l ++ [y]) = [y] := by
    unfold gotL
    rw [List.filter_append]
    have e1 : l.filter (fun x => [(⟨y.pn, y.pn⟩ : Q)].any (inQ x.pn)) = [] := by
      rw [List.filter_eq_nil_iff]
      intro x hx
      have := hl x hx
      simp [inQ]; omega
    have e2 : [y].filter (fun x => [(⟨y.pn, y.pn⟩ : Q)].any (inQ x.pn)) = [y] := by simp [inQ]
    rw [e1, e2]; rfl
  have g2 : stayL [⟨y.pn, y.pn⟩] (l ++ [y]) = l := by
    unfold stayL
    rw [List.filter_append]
    have e1 : l.filter (fun x => ![(⟨y.pn, y.pn⟩ : Q)].any (inQ x.pn)) = l := by
      rw [List.filter_eq_self]
      intro x hx
      have := hl x hx
      simp [inQ]; omega
    have e2 : [y].filter (fun x => ![(⟨y.pn, y.pn⟩ : Q)].any (inQ x.pn)) = [] := by simp [inQ]
    rw [e1, e2]; simp
  have g3 : topQ [⟨y.pn, y.pn⟩] ac = y.pn + 1 := by simp [topQ, mx]; omega
  constructor
  · unfold ackL
    rw [hs]
    simp only []
    rw [g1, if_neg (by simp [okQ]; omega), if_neg (by simp)]
  · unfold midL
    rw [hs]
    simp only []
    rw [g1, g2, g3]
    have e4 : lastS [y] = y := rfl
    rw [e4, if_pos rfl]
    have e5 : now - mn now y.time = now - y.time := by unfold mn; split <;> omega
    rw [e5]
    rfl

def stepL (k : Nat) (L : Lg) : Lg := (ackL 0 [⟨(k : Int), (k : Int)⟩] 20 (sentL 0 (mk k 10 1000) L)).2.2.2
theorem stepW {k : Nat} {L : Lg} (h : PW k L) (hk : k < 30) : PW (k + 1) (stepL k L) ∧ (ackL 0 [⟨(k : Int), (k : Int)⟩] 20 (sentL 0 (mk k 10 1000) L)).2.2.1 = 0 := by
  have hs : (sentL 0 (mk k 10 1000) L).sp 0 = ⟨[] ++ [mk k 10 1000], (k : Int) + 1, (k : Int), 0⟩ := by
    unfold sentL
    rw [h.s0]
    rfl
  obtain ⟨e1, e2⟩ := ack_last (sentL 0 (mk k 10 1000) L) [] (mk k 10 1000) _ _ _ 20 hs (by show (k : Int) < k + 1; omega) (fun _ hx => nomatch hx) (by show (k : Int) ≤ k; omega) (by show (10 : Int) ≤ 20; decide)
  have e1 : ackL 0 [⟨(k : Int), (k : Int)⟩] 20 (sentL 0 (mk k 10 1000) L) = _ := e1
  unfold stepL
  rw [e1]
  refine ⟨?_, rfl⟩
  simp only []
  rw [e2]
  obtain ⟨t1, t2, t3, t4, t5⟩ := time10 (r := (sentL 0 (mk k 10 1000) L).r) (by
    rcases h.la with ⟨_, h⟩ | h
    · exact .inl h
    · exact .inr h)
  have tt : (20 : Int) - (mk (k : Int) 10 1000).time = 10 := rfl
  rw [tt]
  have w1 : (sentL 0 (mk k 10 1000) L).r.window = 12000 + 1000 * k := h.w
  have w2 : (sentL 0 (mk k 10 1000) L).r.limit = 4611686018427387903 := h.li
  have w3 : (sentL 0 (mk k 10 1000) L).r.began = 0 := h.be
  obtain ⟨r, hr⟩ : ∃ r, timeR 10 (sentL 0 (mk k 10 1000) L).r = r := ⟨_, rfl⟩
  rw [hr] at t1 t2 t3 t4 t5 ⊢
  rw [w1] at t3
  rw [w2] at t4
  rw [w3] at t5
  refine ⟨?_, h.s1, h.s2, ?_, ?_, ?_, .inr ⟨t1, t2⟩⟩
  · show Sp.mk [] ((k : Int) + 1) ((k : Int) + 1) 0 = Sp.mk [] ((k + 1 : Nat) : Int) ((k + 1 : Nat) : Int) 0
    rw [Int.natCast_add]; rfl
  · show (moreR (mk k 10 1000) r).window = _
    unfold moreR
    simp only []
    rw [if_neg (by rw [t5]; show ¬ ((10 : Int) + 1 ≤ 0); omega), if_pos (by rw [t3, t4]; omega), t3]
    show 12000 + 1000 * (k : Int) + 1000 = _
    omega
  · exact t4
  · exact t5

/-- In the second loop: j packets more. -/
def nine (k j : Nat) : List S := (List.range j).map fun (i : Nat) => mk ((k : Int) + (i : Int)) 30 1000
structure PN (k j : Nat) (L : Lg) : Prop where
  s0 : L.sp 0 = ⟨nine k j, (k : Int) + (j : Int), k, 0⟩
  s1 : (L.sp 1).list = []
  s2 : (L.sp 2).list = []
  w : L.r.window = 12000 + 1000 * k
  li : L.r.limit = 4611686018427387903
  be : L.r.began = 0
  la : L.r.latest = 0 ∨ (L.r.latest = 10 ∧ L.r.smooth = 10)
theorem PW.nine0 {k : Nat} {L : Lg} (h : PW k L) : PN k 0 L := ⟨by rw [h.s0]; simp [nine], h.s1, h.s2, h.w, h.li, h.be, by rcases h.la with ⟨_, h⟩ | h; exact .inl h; exact .inr h⟩
theorem nine_succ (k j : Nat) : nine k (j + 1) = nine k j ++ [mk ((k : Int) + (j : Int)) 30 1000] := by simp [nine, List.range_succ]
theorem PN_step {k j : Nat} {L : Lg} (h : PN k j L) : PN k (j + 1) (sentL 0 (mk ((k : Int) + (j : Int)) 30 1000) L) := by
  refine ⟨?_, h.s1, h.s2, h.w, h.li, h.be, h.la⟩
  unfold sentL
  rw [h.s0, nine_succ]
  show Sp.mk _ ((k : Int) + (j : Int) + 1) _ _ = Sp.mk _ ((k : Int) + ((j + 1 : Nat) : Int)) _ _
  rw [Int.natCast_add, Int.add_assoc]; rfl
theorem fin9 {k n : Nat} {L : Lg} (h : PN k 9 L) (hk : k < 30) (hN : LgN n (ackL 0 [⟨(k : Int) + 8, (k : Int) + 8⟩] 40 L).2.2.2) : (ackL 0 [⟨(k : Int) + 8, (k : Int) + 8⟩] 40 L).2.1.length = 6 ∧ (ackL 0 [⟨(k : Int) + 8, (k : Int) + 8⟩] 40 L).2.2.2.r.window = (12000 + 1000 * (k : Int) + 1000) / 2 ∧ (ackL 0 [⟨(k : Int) + 8, (k : Int) + 8⟩] 40 L).2.2.2.r.flight = 2000 := by
  have hs : L.sp 0 = ⟨nine k 8 ++ [mk ((k : Int) + 8) 30 1000], (k : Int) + 9, (k : Int), 0⟩ := by rw [h.s0]; rw [nine_succ]; rfl
  have hm : ∀ x ∈ nine k 8, (k : Int) ≤ x.pn ∧ x.pn < (k : Int) + 8 ∧ x.time = 30 ∧ x.size = 1000 := by
    intro x hx
    unfold nine at hx
    rw [List.mem_map] at hx
    obtain ⟨i, hi, rfl⟩ := hx
    have := List.mem_range.1 hi
    refine ⟨?_, ?_, rfl, rfl⟩
    · show (k : Int) ≤ k + i; omega
    · show (k : Int) + i < k + 8; omega
  obtain ⟨e1, e2⟩ := ack_last L (nine k 8) (mk ((k : Int) + 8) 30 1000) _ _ _ 40 hs (by show (k : Int) + 8 < k + 9; omega) (fun x hx => (hm x hx).2.1) (by show (k : Int) ≤ k + 8; omega) (by show (30 : Int) ≤ 40; decide)
  have e1 : ackL 0 [⟨(k : Int) + 8, (k : Int) + 8⟩] 40 L = _ := e1
  rw [e1] at hN ⊢
  simp only [] at hN ⊢
  rw [e2] at hN ⊢
  have tt : (40 : Int) - (mk ((k : Int) + 8) 30 1000).time = 10 := rfl
  rw [tt] at hN ⊢
  obtain ⟨t1, t2, t3, t4, t5⟩ := time10 h.la
  obtain ⟨r, hr⟩ : ∃ r, timeR 10 L.r = r := ⟨_, rfl⟩
  rw [hr] at t1 t2 t3 t4 t5 hN ⊢
  rw [h.w] at t3
  rw [h.li] at t4
  rw [h.be] at t5
  obtain ⟨r2, hr2⟩ : ∃ r2, moreR (mk ((k : Int) + 8) 30 1000) r = r2 := ⟨_, rfl⟩
  have w2 : r2.window = 12000 + 1000 * (k : Int) + 1000 := by
    rw [← hr2]
    unfold moreR
    simp only []
    rw [if_neg (by rw [t5]; show ¬ ((30 : Int) + 1 ≤ 0); omega), if_pos (by rw [t3, t4]; omega), t3]
    rfl
  have b2 : r2.began = 0 := by rw [← hr2]; exact t5
  have p2 : patR r2 = 11 := by
    rw [← hr2]
    show mx (mx r.smooth r.latest * 9 / 8) 1 = 11
    rw [t1, t2]; rfl
  rw [hr2] at hN ⊢
  obtain ⟨M, hM⟩ : ∃ M : Lg, { setSp { L with r := r2 } 0 ⟨nine k 8, (k : Int) + 9, (mk ((k : Int) + 8) 30 1000).pn + 1, 0⟩ with tries := 0 } = M := ⟨_, rfl⟩
  have m0 : M.sp 0 = ⟨nine k 8, (k : Int) + 9, (k : Int) + 9, 0⟩ := by
    rw [← hM]
    show Sp.mk (nine k 8) ((k : Int) + 9) ((k : Int) + 8 + 1) 0 = _
    rw [Int.add_assoc]; rfl
  have mr : M.r = r2 := by rw [← hM]; rfl
  have m1 : (M.sp 1).list = [] := by rw [← hM]; exact h.s1
  have m2 : (M.sp 2).list = [] := by rw [← hM]; exact h.s2
  rw [hM] at hN ⊢
  obtain ⟨f1, f2⟩ := gone_split ((k : Int) + 9) 40 (nine k 8) ⟨[], [], r2, 0⟩ (fun x hx hp => .inr (by show (40 : Int) < x.time + patR r2; rw [p2, (hm x hx).2.2.1]; decide))
  have f3 := gone_win ((k : Int) + 9) 40 (12000 + 1000 * (k : Int) + 1000) (nine k 8) ⟨[], [], r2, 0⟩ (fun x hx => by rw [(hm x hx).2.2.1]; decide) (.inl ⟨b2, w2, rfl⟩)
  have gg : goneG (M.sp 0).acked 40 (M.sp 0).list M.r = (nine k 8).foldl (gstep ((k : Int) + 9) 40) ⟨[], [], r2, 0⟩ := by rw [m0, mr]; rfl
  rw [← gg] at f1 f2 f3
  have l6 : (nine k 8).filter (fun x => decide (x.pn + 3 < (k : Int) + 9)) = nine k 6 := by
    have d : ∀ i : Nat, decide ((mk ((k : Int) + (i : Int)) 30 1000).pn + 3 < (k : Int) + 9) = decide (i < 6) := fun i => by
      show decide ((k : Int) + i + 3 < k + 9) = _
      congr 1
      simp only [eq_iff_iff]
      omega
    rw [nine_succ, nine_succ, List.filter_append, List.filter_append]
    have a : (nine k 6).filter (fun x => decide (x.pn + 3 < (k : Int) + 9)) = nine k 6 := by
      rw [List.filter_eq_self]
      intro x hx
      unfold nine at hx
      rw [List.mem_map] at hx
      obtain ⟨i, hi, rfl⟩ := hx
      rw [d]
      simpa using List.mem_range.1 hi
    rw [a]
    simp only [List.filter, d]
    simp
  have n6 : (nine k 6).length = 6 := by simp [nine]
  have lo : (goneO 0 40 M).length = 6 := by
    show (goneG (M.sp 0).acked 40 (M.sp 0).list M.r).lost.length = 6
    rw [f1, l6]; simpa using n6
  refine ⟨lo, ?_, ?_⟩
  · show (goneG (M.sp 0).acked 40 (M.sp 0).list M.r).r.window = _
    rcases f3 with ⟨-, h2⟩ | ⟨h1, -⟩
    · have : (goneO 0 40 M).length = 0 := by show (goneG (M.sp 0).acked 40 (M.sp 0).list M.r).lost.length = 0; rw [h2]; rfl
      omega
    · rw [h1]; unfold mx; split <;> omega
  · rw [hN.t]
    have z1 : ((goneL 0 40 M).sp 1).list = [] := m1
    have z2 : ((goneL 0 40 M).sp 2).list = [] := m2
    have z0 : ((goneL 0 40 M).sp 0).list = (goneG (M.sp 0).acked 40 (M.sp 0).list M.r).stay := rfl
    rw [z1, z2, z0]
    have s1 := sumS_filter (nine k 8) (fun x => decide (x.pn + 3 < (k : Int) + 9))
    rw [f2]
    have s2 : sumS (nine k 8) = 8000 := by simp [nine, List.range_succ, sumS, mk]
    have s3 : sumS (nine k 6) = 6000 := by simp [nine, List.range_succ, sumS, mk]
    rw [l6, s2, s3] at s1
    simp only [sumS, List.nil_append]
    omega
set_option maxHeartbeats 4000000 in
set_option maxRecDepth 100000 in
theorem law (n : Int) (hn0 : (Lit.int .u8 n).wf = true) (hv : Bool) (w : World) : Calls Try.prog 3 #[.int .u8 n, .bool hv] w fun e w' => e = .returned (.bool true) ∧ Below w.heap.size w w' := by
  have hn : 0 ≤ n ∧ n < 256 := by
    simp [Lit.wf, IntKind.min, IntKind.max, IntKind.bits, IntKind.signed] at hn0
    omega
  obtain ⟨n0, n1⟩ := hn
  clear hn0
  go_enter Try.func3, Try.ntmps3
  go_wp2_with fail
  refine (awake w).mono ?_
  rintro e w1 ⟨rfl, B1⟩
  go_wp2_with fail
  refine (lw_new B1).mono ?_
  rintro e w2 ⟨p, rfl, -, H2, -⟩
  have H2 := Lib.hid H2
  clear B1
  go_wp2_with fail
  obtain ⟨m, hm, hm2⟩ : ∃ m : Nat, n % 30 = (m : Int) ∧ m < 30 := ⟨(n % 30).toNat, by omega, by omega⟩
  rw [hm]
  clear hm
  go_loopw [6, 7, 21] (fun a b j wr => ∃ (k : Nat) (L : Lg) (v : Nat → Value), k ≤ m ∧ j = .int .u8 (k : Int) ∧ a = .int .u64 (k : Int) ∧ b = .int .u64 (12000 + 1000 * (k : Int)) ∧ Hid (LW w wr p k L v) ∧ Hid (PW k L)) (fun _ _ j _ => m - (intOf j).toNat)
  case atStart => exact ⟨0, newL, v0, by omega, rfl, rfl, rfl, H2, Lib.hid ⟨rfl, rfl, rfl, rfl, rfl, rfl, .inl ⟨rfl, rfl⟩⟩⟩
  case round =>
    obtain ⟨k, L, v, hk, rfl, rfl, rfl, HL, HP⟩ := hrel
    clear H2
    by_cases hkm : k < m
    · go_wp2_with fail
      refine (lw_sent HL.out 0 (by omega) (k : Int) 10 1000 ⟨by omega, by omega, by omega, by omega, by omega, by omega⟩ (by rw [HP.out.s0]; exact Int.le_refl _) (by rw [HP.out.s0]; simp)).mono ?_
      rintro e w3 ⟨rfl, v3, H3, -⟩
      have H3 := Lib.hid H3
      go_wp2_with fail
      refine (lw_one (H3.out.go ((Below.refl _ _).alloc (Nat.le_refl _) _)) (by omega) 0 (by omega) 20 ⟨by omega, by omega⟩ w3.heap.size 1 ⟨k, k⟩ (heap_alloc_new _ _) ⟨by show 0 ≤ (k : Int); omega, by show (k : Int) < _; omega, by show 0 ≤ (k : Int); omega, by show (k : Int) < _; omega⟩).mono ?_
      rintro e w4 ⟨va, vl, v4, rfl, H4, -, -, -⟩
      have H4 := Lib.hid H4
      have HP4 := Lib.hid (stepW HP.out (by omega)).1
      go_wp2_with fail
      go_roundw
      case rel => exact ⟨k + 1, _, _, by omega, by simp, by simp, by simp; omega, H4, HP4⟩
      case measure => simp [intOf]; omega
    · have e : k = m := by omega
      subst e
      have ST := lw_state HL.out
      rw [HP.out.w, HP.out.flight HL.out.inv] at ST
      go_wp2_with fail
      refine ST.mono ?_
      rintro e w3 ⟨rfl, n3, rfl⟩
      have H3 := Lib.hid (HL.out.drewN n3)
      clear ST
      have RO := room_calls H3.out.led H3.out.inv.b.r
      have er : roomL L.r = 12000 + 1000 * (k : Int) := by unfold roomL mn; rw [HP.out.w, HP.out.flight HL.out.inv]; split <;> omega
      rw [er] at RO
      go_wp2_with fail
      refine RO.mono ?_
      rintro e w4 ⟨rfl, n4, rfl⟩
      have H4 := Lib.hid (HL.out.drewN (n3 + n4))
      clear RO er
      cases hv with
      | false =>
        go_wp2_with fail
        go_ret
        exact ⟨rfl, H4.out.below⟩
      | true =>
        go_wp2_with fail
        go_loopw [60] (fun j wr => ∃ (i : Nat) (L : Lg) (v : Nat → Value), i ≤ 9 ∧ j = .int .u64 (i : Int) ∧ Hid (LW w wr p k L v) ∧ Hid (PN k i L)) (fun j _ => 9 - (intOf j).toNat)
        case atStart => exact ⟨0, L, v, by omega, rfl, H4, Lib.hid HP.out.nine0⟩
        case round =>
          obtain ⟨i, L, v, hi, rfl, HL, HP⟩ := hrel
          by_cases hi9 : i < 9
          · have hwk : IntKind.u64.wrap ((k : Int) + (i : Int)) = (k : Int) + (i : Int) := by rw [IntKind.wrap_u64]; omega
            go_wp2_with fail
            refine (lw_sent HL.out 0 (by omega) ((k : Int) + (i : Int)) 30 1000 ⟨by omega, by omega, by omega, by omega, by omega, by omega⟩ (by rw [HP.out.s0]; exact Int.le_refl _) (by rw [HP.out.s0]; simp [nine]; omega)).mono ?_
            rintro e w5 ⟨rfl, v5, H5, -⟩
            have H5 := Lib.hid H5
            have HP5 := Lib.hid (PN_step HP.out)
            go_wp2_with fail
            go_roundw
            case rel => exact ⟨i + 1, _, _, by omega, by simp, H5, HP5⟩
            case measure => simp [intOf]; omega
          · have e : i = 9 := by omega
            subst e
            have hw8 : IntKind.u64.wrap ((k : Int) + 8) = (k : Int) + 8 := by rw [IntKind.wrap_u64]; omega
            go_wp2_with fail
            refine (lw_one (HL.out.go ((Below.refl _ _).alloc (Nat.le_refl _) _)) (by omega) 0 (by omega) 40 ⟨by omega, by omega⟩ wr.heap.size 1 ⟨(k : Int) + 8, (k : Int) + 8⟩ (heap_alloc_new _ _) ⟨by show 0 ≤ (k : Int) + 8; omega, by show (k : Int) + 8 < _; omega, by show 0 ≤ (k : Int) + 8; omega, by show (k : Int) + 8 < _; omega⟩).mono ?_
            rintro e w6 ⟨va, vl, v6, rfl, H6, RA, RL, -⟩
            obtain ⟨f1, f2, f3⟩ := fin9 HP.out (by omega) H6.inv
            obtain ⟨A1, c1, e1, -⟩ := row_slice RA
            obtain ⟨A2, c2, e2, -⟩ := row_slice RL
            rw [f1] at e2
            subst e1 e2
            have ST := lw_state H6
            rw [f2, f3] at ST
            have H6 := Lib.hid H6
            clear RA RL
            go_wp2_with fail
            refine ST.mono ?_
            rintro e w7 ⟨rfl, n7, rfl⟩
            have H7 := Lib.hid (H6.out.drewN n7)
            clear ST f1 f2 f3
            go_wp2_with fail
            go_ret
            exact ⟨rfl, H7.out.below⟩
end Go.Proofs.Ytgdboikoejodpaa.LossWindow
