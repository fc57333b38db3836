/- What holds of a ledger all along: bounds, and what is under way. -/
import Derived.Test.YtgdboikoejodpaaSentA
namespace Go.Proofs.Ytgdboikoejodpaa.Inv
open Go Go.RowKit Go.Proofs.YtgdboikoejodpaaW.PrintWords Go.Proofs.YtgdboikoejodpaaW.PrintLast Go.Proofs.YtgdboikoejodpaaW.PrintMore Go.Proofs.Ytgdboikoejodpaa.Keep Go.Proofs.Ytgdboikoejodpaa.Led Go.Proofs.Ytgdboikoejodpaa.Rate Go.Proofs.Ytgdboikoejodpaa.Rd Go.Proofs.Ytgdboikoejodpaa.Timer Go.Proofs.Ytgdboikoejodpaa.LedSp Go.Proofs.Ytgdboikoejodpaa.Drop Go.Proofs.Ytgdboikoejodpaa.In Go.Proofs.Ytgdboikoejodpaa.Split Go.Proofs.Ytgdboikoejodpaa.GoneP Go.Proofs.Ytgdboikoejodpaa.Gone Go.Proofs.Ytgdboikoejodpaa.AckP Go.Proofs.Ytgdboikoejodpaa.Ack Go.Proofs.Ytgdboikoejodpaa.Clone Go.Proofs.Ytgdboikoejodpaa.Sent
set_option linter.unusedVariables false

structure LgN (n : Nat) (L : Lg) : Prop where
  b : LgB L
  t : L.r.flight = sumS (L.sp 0).list + sumS (L.sp 1).list + sumS (L.sp 2).list
  w : 2400 ≤ L.r.window ∧ L.r.window ≤ 12000 + 1474560000 * n
  k : L.tries ≤ n
theorem LgN.nn {n : Nat} {L : Lg} (h : LgN n L) (i : Nat) (hi : i < 3) : 0 ≤ sumS (L.sp i).list := sumS_nonneg (fun x hx => (h.b.list i hi x hx).2.2.2.2.1)
theorem LgN.fl {n : Nat} {L : Lg} (h : LgN n L) (i : Nat) (hi : i < 3) : sumS (L.sp i).list ≤ L.r.flight := by
  have h0 := h.nn 0 (by omega); have h1 := h.nn 1 (by omega); have h2 := h.nn 2 (by omega); have ht := h.t
  rcases three hi with rfl | rfl | rfl <;> omega
theorem LgN.wi {n : Nat} {L : Lg} (h : LgN n L) (hn : n ≤ 500000) : L.r.window + 1440000 * 1024 ≤ 1125899906842624 := by have := h.w.2; omega
theorem LgN.mono {n m : Nat} {L : Lg} (h : LgN n L) (hm : n ≤ m) : LgN m L := ⟨h.b, h.t, ⟨h.w.1, by have := h.w.2; omega⟩, by have := h.k; omega⟩

theorem newN : LgN 0 newL := by
  refine ⟨⟨⟨?_, ?_, ?_, ?_, ?_, ?_, ?_⟩, ?_, ?_, ?_, ?_, ?_, ?_, ?_⟩, ?_, ?_, ?_⟩ <;> simp [newL, sp0, sumS]

theorem sum_len {l : List S} (h : ∀ x ∈ l, x.size ≤ 1200) : sumS l ≤ 1200 * l.length := by
  induction l with
  | nil => simp [sumS]
  | cons x l ih =>
    have h1 := ih (fun y hy => h y (List.mem_cons_of_mem _ hy))
    have h2 := h x (List.mem_cons_self ..)
    simp only [sumS, List.length_cons]; omega
theorem LgN.flb {n : Nat} {L : Lg} (h : LgN n L) (i : Nat) (hi : i < 3) : sumS (L.sp i).list ≤ 1228800 := by
  have h1 := sum_len (l := (L.sp i).list) (fun x hx => (h.b.list i hi x hx).2.2.2.2.2)
  have h2 := h.b.many i hi
  omega
theorem LgN.flight {n : Nat} {L : Lg} (h : LgN n L) : 0 ≤ L.r.flight ∧ L.r.flight ≤ 3686400 := by
  have := h.t
  have := h.nn 0 (by omega); have := h.nn 1 (by omega); have := h.nn 2 (by omega)
  have := h.flb 0 (by omega); have := h.flb 1 (by omega); have := h.flb 2 (by omega)
  omega

/-- The sum of all, when one space's list turns. -/
theorem sum_set {L : Lg} (i : Nat) (hi : i < 3) (s : Sp) : sumS ((setSp L i s).sp 0).list + sumS ((setSp L i s).sp 1).list + sumS ((setSp L i s).sp 2).list = sumS (L.sp 0).list + sumS (L.sp 1).list + sumS (L.sp 2).list - sumS (L.sp i).list + sumS s.list := by
  rcases three hi with rfl | rfl | rfl <;> simp [setSp] <;> omega

theorem setB {L L' : Lg} (h : LgB L) (i : Nat) (hi : i < 3) (s : Sp) (e : ∀ k, L'.sp k = (setSp L i s).sp k) (hr : RtB L'.r) (ht : 0 ≤ L'.tries ∧ L'.tries ≤ 1152921504606846976) (hla : 0 ≤ L'.last ∧ L'.last ≤ 1099511627776)
    (h1 : 0 ≤ s.next ∧ s.next ≤ 4611686018427387904) (h2 : 0 ≤ s.acked ∧ s.acked ≤ 4611686018427387904) (h3 : 0 ≤ s.timeout ∧ s.timeout ≤ 1152921504606846976) (h4 : ∀ x ∈ s.list, pk x) (h5 : s.list.length ≤ 1024) : LgB L' := by
  have e : ∀ k, L'.sp k = if k = i then s else L.sp k := fun k => (e k).trans rfl
  refine ⟨hr, ?_, ?_, ?_, ht, hla, ?_, ?_⟩
  · intro k hk; rw [e]; split
    · exact h1
    · exact h.next k hk
  · intro k hk; rw [e]; split
    · exact h2
    · exact h.acked k hk
  · intro k hk; rw [e]; split
    · exact h3
    · exact h.timeout k hk
  · intro k hk; rw [e]; split
    · exact h4
    · exact h.list k hk
  · intro k hk; rw [e]; split
    · exact h5
    · exact h.many k hk

theorem less_lo {r : Rt} (x : S) (now : Int) (h : 2400 ≤ r.window) : 2400 ≤ (lessR x now r).window := by
  unfold lessR mx
  split <;> simp only [] <;> (repeat' split) <;> omega
theorem goneG_lo (acked now : Int) (l : List S) (g : G) (h : 2400 ≤ g.r.window) : 2400 ≤ (l.foldl (gstep acked now) g).r.window := by
  induction l generalizing g with
  | nil => exact h
  | cons x l ih =>
    refine ih _ ?_
    unfold gstep
    split
    · exact h
    · split
      · exact less_lo x now h
      · exact h

theorem goneN {n : Nat} {L : Lg} (h : LgN n L) (i : Nat) (hi : i < 3) (now : Int) (hn : 0 ≤ now ∧ now ≤ 1099511627776) : LgN n (goneL i now L) := by
  have g := goneG_b (L.sp i).acked now hn (L.sp i).list L.r h.b.r (h.b.list i hi) (h.fl i hi) (L.sp i).list.length (Nat.le_refl _)
  rw [List.take_length] at g
  have hlo := goneG_lo (L.sp i).acked now (L.sp i).list ⟨[], [], L.r, 0⟩ h.w.1
  have gg : goneG (L.sp i).acked now (L.sp i).list L.r = (L.sp i).list.foldl (gstep (L.sp i).acked now) ⟨[], [], L.r, 0⟩ := rfl
  rw [← gg] at hlo
  have h1 := h.b.many i hi
  have h2 := g.n; have h3 := g.s; have h4 := g.f; have h5 := g.wi; have h6 := h.w
  refine ⟨setB h.b i hi _ (fun _ => rfl) g.rb h.b.tries h.b.last (h.b.next i hi) (h.b.acked i hi) g.tb (fun x hx => h.b.list i hi x (g.sp x hx)) (by simp only []; omega), ?_, ⟨hlo, ?_⟩, h.k⟩
  · have := sum_set (L := { L with r := (goneG (L.sp i).acked now (L.sp i).list L.r).r }) i hi { L.sp i with list := (goneG (L.sp i).acked now (L.sp i).list L.r).stay, timeout := (goneG (L.sp i).acked now (L.sp i).list L.r).t }
    simp only [] at this
    show (goneG (L.sp i).acked now (L.sp i).list L.r).r.flight = _
    unfold goneL
    rw [this, h4, ← h.t]
    omega
  · show (goneG (L.sp i).acked now (L.sp i).list L.r).r.window ≤ _
    unfold mx at h5
    split at h5 <;> omega

theorem more_lo {r : Rt} (x : S) (h : 2400 ≤ r.window) (hx : 0 ≤ x.size) : 2400 ≤ (moreR x r).window := by
  have : 0 ≤ 1200 * x.size / r.window := Int.ediv_nonneg (by omega) (by omega)
  unfold moreR
  simp only []
  (repeat' split) <;> omega
theorem moreAll_lo (l : List S) (r : Rt) (h : 2400 ≤ r.window) (hl : ∀ x ∈ l, 0 ≤ x.size) : 2400 ≤ (moreAll l r).window := by
  induction l generalizing r with
  | nil => exact h
  | cons x l ih => exact ih _ (more_lo x h (hl x (List.mem_cons_self ..))) (fun y hy => hl y (List.mem_cons_of_mem _ hy))

theorem midN {n : Nat} {L : Lg} (h : LgN n L) (hn : n ≤ 500000) (i : Nat) (hi : i < 3) (l : List Q) (hq : ∀ x ∈ l, pq x) (hl : l.all (okQ (L.sp i).next) = true) (now : Int) (hw : 0 ≤ now ∧ now ≤ 1099511627776) (hg : gotL l (L.sp i).list ≠ []) : LgN (n + 1) (midL i l now L) := by
  have tb := topQ_b hq (h.b.acked i hi) (h.b.next i hi).2 l.length (Nat.le_refl _) (by rw [List.take_length]; exact hl)
  rw [List.take_length] at tb
  have hgp : ∀ x ∈ gotL l (L.sp i).list, pk x := fun x hx => h.b.list i hi x (List.mem_filter.1 hx).1
  have hgl : (gotL l (L.sp i).list).length ≤ 1024 := Nat.le_trans (List.length_filter_le _ _) (h.b.many i hi)
  have hf := sumS_filter (L.sp i).list (fun x => l.any (inQ x.pn))
  have hf : sumS (gotL l (L.sp i).list) + sumS (stayL l (L.sp i).list) = sumS (L.sp i).list := hf
  have hsn : 0 ≤ sumS (stayL l (L.sp i).list) := sumS_nonneg (fun x hx => (h.b.list i hi x (List.mem_filter.1 hx).1).2.2.2.2.1)
  have hlast : pk (lastS (gotL l (L.sp i).list)) := by
    unfold lastS
    refine hgp _ (rdS_mem ?_)
    cases hh : gotL l (L.sp i).list with
    | nil => exact absurd hh hg
    | cons x l => simp
  obtain ⟨-, -, t1, t2, -, -⟩ := hlast
  have hmn : 0 ≤ now - mn now (lastS (gotL l (L.sp i).list)).time ∧ now - mn now (lastS (gotL l (L.sp i).list)).time ≤ 1099511627776 := by unfold mn; split <;> omega
  obtain ⟨r1, hr1⟩ : ∃ r1, (if (lastS (gotL l (L.sp i).list)).pn + 1 = topQ l (L.sp i).acked then timeR (now - mn now (lastS (gotL l (L.sp i).list)).time) L.r else L.r) = r1 := ⟨_, rfl⟩
  have hb1 : RtB r1 ∧ r1.flight = L.r.flight ∧ r1.window = L.r.window := by
    rw [← hr1]
    split
    · exact time_b h.b.r hmn
    · exact ⟨h.b.r, rfl, rfl⟩
  obtain ⟨b1, b2, b3⟩ := hb1
  have hfl := h.fl i hi
  have hwi := h.wi hn
  obtain ⟨m1, m2, m3⟩ := moreAll_b (gotL l (L.sp i).list) r1 b1 hgp (by rw [b2]; omega) (by rw [b3]; exact Int.le_trans (by omega) hwi) (gotL l (L.sp i).list).length (Nat.le_refl _)
  rw [List.take_length] at m1 m2 m3
  have lo := moreAll_lo (gotL l (L.sp i).list) r1 (by rw [b3]; exact h.w.1) (fun x hx => (hgp x hx).2.2.2.2.1)
  have em : midL i l now L = { setSp { L with r := moreAll (gotL l (L.sp i).list) r1 } i { L.sp i with list := stayL l (L.sp i).list, acked := topQ l (L.sp i).acked } with tries := 0 } := by unfold midL; rw [hr1]
  rw [em]
  have h6 := h.w
  refine ⟨setB h.b i hi { L.sp i with list := stayL l (L.sp i).list, acked := topQ l (L.sp i).acked } (fun _ => rfl) m1 ⟨Int.le_refl _, (by show (0 : Int) ≤ 1152921504606846976; decide)⟩ h.b.last (h.b.next i hi) tb (h.b.timeout i hi) (fun x hx => h.b.list i hi x (List.mem_filter.1 hx).1) (Nat.le_trans (List.length_filter_le _ _) (h.b.many i hi)), ?_, ⟨lo, ?_⟩, ?_⟩
  · have := sum_set (L := { L with r := moreAll (gotL l (L.sp i).list) r1 }) i hi { L.sp i with list := stayL l (L.sp i).list, acked := topQ l (L.sp i).acked }
    simp only [] at this
    show (moreAll (gotL l (L.sp i).list) r1).flight = _
    rw [m2, b2]
    refine Eq.trans ?_ this.symm
    rw [← h.t]
    omega
  · show (moreAll (gotL l (L.sp i).list) r1).window ≤ _
    rw [b3] at m3
    omega
  · show (0 : Int) ≤ _
    omega

theorem ackN {n : Nat} {L : Lg} (h : LgN n L) (hn : n ≤ 500000) (i : Nat) (hi : i < 3) (l : List Q) (hq : ∀ x ∈ l, pq x) (now : Int) (hw : 0 ≤ now ∧ now ≤ 1099511627776) : LgN (n + 1) (ackL i l now L).2.2.2 := by
  unfold ackL
  by_cases h1 : l.all (okQ (L.sp i).next) = false
  · rw [if_pos h1]; exact h.mono (by omega)
  · rw [if_neg h1]
    have h1 : l.all (okQ (L.sp i).next) = true := by simpa using h1
    by_cases h2 : gotL l (L.sp i).list = []
    · rw [if_pos h2]
      have tb := topQ_b hq (h.b.acked i hi) (h.b.next i hi).2 l.length (Nat.le_refl _) (by rw [List.take_length]; exact h1)
      rw [List.take_length] at tb
      refine LgN.mono (n := n) ⟨setB h.b i hi _ (fun _ => rfl) h.b.r h.b.tries h.b.last (h.b.next i hi) tb (h.b.timeout i hi) (h.b.list i hi) (h.b.many i hi), ?_, h.w, h.k⟩ (by omega)
      refine Eq.trans ?_ (sum_set i hi _).symm
      show L.r.flight = _
      rw [← h.t]; simp only []; omega
    · rw [if_neg h2]
      exact goneN (midN h hn i hi l hq h1 now hw h2) i hi now hw

/-- Behind Sent of a packet that asks. -/
def sentL (i : Nat) (y : S) (L : Lg) : Lg := { setSp { L with r := { L.r with flight := L.r.flight + y.size } } i { L.sp i with list := (L.sp i).list ++ [y], next := y.pn + 1 } with last := mx L.last y.time }
theorem sentN {n : Nat} {L : Lg} (h : LgN n L) (i : Nat) (hi : i < 3) (y : S) (hy : 0 ≤ y.pn ∧ y.pn ≤ 4611686018427387903 ∧ 0 ≤ y.time ∧ y.time ≤ 1099511627776 ∧ 0 ≤ y.size ∧ y.size ≤ 1200) (hl : (L.sp i).list.length < 1024) : LgN n (sentL i y L) := by
  obtain ⟨y1, y2, y3, y4, y5, y6⟩ := hy
  have hf := h.flight
  have hr := h.b.r
  have hla := h.b.last
  refine ⟨setB (L' := sentL i y L) h.b i hi { L.sp i with list := (L.sp i).list ++ [y], next := y.pn + 1 } (fun _ => rfl) ⟨hr.sm, hr.va, hr.la, hr.wi, hr.li, ?_, hr.be⟩ h.b.tries ?_ ?_ (h.b.acked i hi) (h.b.timeout i hi) ?_ ?_, ?_, h.w, h.k⟩
  · show 0 ≤ L.r.flight + y.size ∧ L.r.flight + y.size ≤ _; omega
  · show 0 ≤ mx L.last y.time ∧ mx L.last y.time ≤ _; unfold mx; split <;> omega
  · show 0 ≤ y.pn + 1 ∧ y.pn + 1 ≤ _; omega
  · intro x hx
    rcases List.mem_append.1 hx with hx | hx
    · exact h.b.list i hi x hx
    · rw [List.mem_singleton.1 hx]; exact ⟨y1, by omega, y3, y4, y5, y6⟩
  · simp; omega
  · refine Eq.trans ?_ (sum_set (L := { L with r := { L.r with flight := L.r.flight + y.size } }) i hi _).symm
    show L.r.flight + y.size = _
    simp only []
    rw [sumS_append, ← h.t]
    simp [sumS]
    omega
theorem nextN {n : Nat} {L : Lg} (h : LgN n L) (i : Nat) (hi : i < 3) (m : Int) (hm : 0 ≤ m ∧ m ≤ 4611686018427387904) : LgN n (setSp L i { L.sp i with next := m }) := by
  refine ⟨setB h.b i hi _ (fun _ => rfl) h.b.r h.b.tries h.b.last hm (h.b.acked i hi) (h.b.timeout i hi) (h.b.list i hi) (h.b.many i hi), ?_, h.w, h.k⟩
  refine Eq.trans ?_ (sum_set i hi _).symm
  show L.r.flight = _
  rw [← h.t]; simp only []; omega
theorem dropN {n : Nat} {L : Lg} (h : LgN n L) (i : Nat) (hi : i < 3) : LgN n (dropL i L) := by
  have hr := h.b.r
  have hf := h.flight
  have h1 := h.fl i hi
  have h2 := h.nn i hi
  refine ⟨setB (L' := dropL i L) h.b i hi { L.sp i with list := [], timeout := 0 } (fun _ => rfl) ⟨hr.sm, hr.va, hr.la, hr.wi, hr.li, ?_, hr.be⟩ ⟨Int.le_refl _, (by show (0 : Int) ≤ 1152921504606846976; decide)⟩ h.b.last (h.b.next i hi) (h.b.acked i hi) ⟨Int.le_refl _, (by show (0 : Int) ≤ 1152921504606846976; decide)⟩ (fun _ hx => nomatch hx) (Nat.zero_le _), ?_, h.w, ?_⟩
  · show 0 ≤ L.r.flight - sumS (L.sp i).list ∧ L.r.flight - sumS (L.sp i).list ≤ _; omega
  · refine Eq.trans ?_ (sum_set (L := { L with r := { L.r with flight := L.r.flight - sumS (L.sp i).list } }) i hi _).symm
    show L.r.flight - sumS (L.sp i).list = _
    simp only [sumS]
    rw [← h.t]
    omega
  · show (0 : Int) ≤ _; omega
end Go.Proofs.Ytgdboikoejodpaa.Inv
