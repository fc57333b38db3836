/- The reference's ledger: how it lies in memory, told by the same plain ledger; its small methods. -/
import Derived.Test.YtgdboikoejodpaaLaw
namespace Go.Proofs.Ytgdboikoejodpaa.Ref
open Go Go.RowKit Go.Proofs.YtgdboikoejodpaaW.PrintWords Go.Proofs.YtgdboikoejodpaaW.PrintLast Go.Proofs.YtgdboikoejodpaaW.PrintMore Go.Proofs.Ytgdboikoejodpaa.Keep Go.Proofs.Ytgdboikoejodpaa.Led Go.Proofs.Ytgdboikoejodpaa.Rate Go.Proofs.Ytgdboikoejodpaa.Rd Go.Proofs.Ytgdboikoejodpaa.Timer Go.Proofs.Ytgdboikoejodpaa.LedSp Go.Proofs.Ytgdboikoejodpaa.Drop Go.Proofs.Ytgdboikoejodpaa.In Go.Proofs.Ytgdboikoejodpaa.Split Go.Proofs.Ytgdboikoejodpaa.GoneP Go.Proofs.Ytgdboikoejodpaa.Gone Go.Proofs.Ytgdboikoejodpaa.AckP Go.Proofs.Ytgdboikoejodpaa.Ack Go.Proofs.Ytgdboikoejodpaa.Clone Go.Proofs.Ytgdboikoejodpaa.Sent Go.Proofs.Ytgdboikoejodpaa.Inv Go.Proofs.Ytgdboikoejodpaa.Fire Go.Proofs.Ytgdboikoejodpaa.Law
attribute [local go_sem] max2_int min2_int max_two min_two max_three min_three max_four min_four
set_option linter.unusedVariables false

/-- A packet, wherever its frames lie. -/
def eCells (x : S) (A : Option Addr) (c : Nat) : List Value := [.int .u64 x.pn, .int .u64 x.time, .int .u64 x.size, .bool x.asks, .slice A x.fn c]
def kE : Kd S where
  sz := 5
  E := []
  K := fun _ x cs => ∃ A c, cs = eCells x A c
  M := fun _ _ _ x cs => ∃ A c, cs = eCells x A c
  K_len := by rintro w x cs ⟨A, c, rfl⟩; rfl
  K_one := by
    rintro w x cs ⟨A, c, rfl⟩ u hu
    simp only [eCells, List.mem_cons, List.not_mem_nil, or_false] at hu
    rcases hu with rfl | rfl | rfl | rfl | rfl <;> rfl
  K_below := fun _ h => h
  K_of_M := fun h => h
  M_mono := fun _ h => h
  M_bound := fun h => h
  M_move := fun _ h => h
  M_lower := fun _ h => h
abbrev RE (w : World) (base : Nat) (v : Value) (l : List S) : Prop := kE.R 30 w base (fun _ => True) v l
theorem at_E {w : World} {A : Option Addr} {n : Nat} {xs : List S} (h : Kd.C kE w A n xs) (k : Nat) (hk : k < n) : ∃ ad A' c', A = some ad ∧ w.cell? (ad.add (k * 5)) = some (.int .u64 (rdS xs k).pn) ∧ w.cell? ⟨(ad.add (k * 5)).block, (ad.add (k * 5)).off + 1, none⟩ = some (.int .u64 (rdS xs k).time) ∧ w.cell? ⟨(ad.add (k * 5)).block, (ad.add (k * 5)).off + 2, none⟩ = some (.int .u64 (rdS xs k).size) ∧
    w.cell? ⟨(ad.add (k * 5)).block, (ad.add (k * 5)).off + 3, none⟩ = some (.bool (rdS xs k).asks) ∧ w.cell? ⟨(ad.add (k * 5)).block, (ad.add (k * 5)).off + 4, none⟩ = some (.slice A' (rdS xs k).fn c') := by
  obtain ⟨ad, c, e, _, hK, hc0⟩ := Kd.C_get h zS (k : Int) (by omega) (by omega)
  have hc : ∀ j u, c[j]? = some u → w.cell? (ad.add (k * 5 + j)) = some u := hc0
  obtain ⟨A', c', hK⟩ : ∃ A' c', c = eCells (rdS xs k) A' c' := hK
  subst hK
  exact ⟨ad, A', c', e, hc 0 _ rfl, by rw [← add_field _ _ 1 (by omega)]; exact hc 1 _ rfl, by rw [← add_field _ _ 2 (by omega)]; exact hc 2 _ rfl, by rw [← add_field _ _ 3 (by omega)]; exact hc 3 _ rfl, by rw [← add_field _ _ 4 (by omega)]; exact hc 4 _ rfl⟩
theorem RE_bound {w : World} {base : Nat} {v : Value} {l : List S} (h : RE w base v l) (k : Nat) (hk : v.ownBlock = some k) : base ≤ k ∧ k < w.heap.size := by
  obtain ⟨inner, ho⟩ := Kd.R_own h
  exact ⟨own_base ho k hk, own_lt ho k hk⟩
theorem RE_typed {w : World} {base : Nat} {v : Value} {l : List S} (h : RE w base v l) (k : Nat) (hk : v.ownBlock = some k) : ∃ cells, w.heap[k]? = some (.cells cells 30 (0, 0)) := by
  obtain ⟨-, inner, ho, -⟩ := h
  exact own_typed ho k hk
theorem RE_move {w w' : World} {base : Nat} {v : Value} {l : List S} (h : RE w base v l) (hb : ∀ k, v.ownBlock = some k → w'.heap[k]? = w.heap[k]?) : RE w' base v l := by
  obtain ⟨h0, inner, ho, hr⟩ := h
  exact ⟨h0, inner, own_move ho hb, hr.imp_ (fun _ _ hp => hp)⟩
theorem RE_slice {w : World} {base : Nat} {u : Value} {l : List S} (h : RE w base u l) : ∃ A c, u = Value.slice A l.length c ∧ Kd.C kE w A l.length l := by
  obtain ⟨A, c, e, -, hc⟩ := Kd.R_reads h
  exact ⟨A, c, e, hc⟩
theorem RE_slice' {w : World} {base : Nat} {A : Option Addr} {n c : Nat} {l : List S} (h : RE w base (.slice A n c) l) : Kd.C kE w A l.length l := by
  obtain ⟨A', c', e, hc⟩ := RE_slice h
  injection e with e1 e2 e3
  subst e1
  exact hc

/-- 'append(l, p)' of the reference: one packet, laid into a block of its own just ahead. -/
theorem appE {ops : Array Oper} {rest : List Oper} {o : Oper} {a : Act} {Q : Exit → Act → World → Prop} {W w0 : World} (base : Nat) (hgd : o.guard = none) (s x : Operand) (ho : o.op = .call { callee := .builtin .append, args := #[s, x], argTypes := #[31, 31] })
    {v : Value} {xs : List S} {q : S} {A : Option Addr} {c : Nat} (HO : RE W base v xs) (hs : a.eval s = v) (hx : a.eval x = .slice (some ⟨W.heap.size, 0, none⟩) 1 1) (hB : Below base w0 W) (hbase : base ≤ W.heap.size)
    (hl : xs.length + 1 ≤ 1000000)
    (h : ∀ v1 w1, RE w1 base v1 (xs ++ [q]) → Below base w0 w1 → W.grownBy w1 v.ownBlock → (v1.ownBlock = v.ownBlock ∨ ∃ b, v1.ownBlock = some b ∧ W.heap.size ≤ b) → wpList Try.prog ops Q rest (a.put o.dst v1) w1) : wpList Try.prog ops Q (o :: rest) a (W.alloc (.cells #[.int .u64 q.pn, .int .u64 q.time, .int .u64 q.size, .bool q.asks, .slice A q.fn c] 30)) :=
  Kd.R_append kE (w0 := w0) base hgd s x 31 30 (.agg #[.int .u64 0, .int .u64 0, .int .u64 0, .bool false, .slice none 0 0]) 56 ho Try.underlying31 infoS rfl (by decide) (by decide) v xs q [.int .u64 q.pn, .int .u64 q.time, .int .u64 q.size, .bool q.asks, .slice A q.fn c] (fun _ => True) (fun _ => False) hs hx ⟨A, c, rfl⟩ (fun _ hk => hk.elim) (fun _ _ => trivial) HO hB hbase (by omega) h
theorem RE_grown {W W' : World} {base : Nat} {v : Value} {l : List S} {row : Option Nat} (h : RE W base v l) (hg : W.grownBy W' row) (hn : ∀ k, v.ownBlock = some k → row ≠ some k) : RE W' base v l :=
  RE_move h (fun k hk => hg.block k (RE_bound h k hk).2 (fun e => hn k hk e.symm))

def rcells (L : Lg) (v : Nat → Value) : Array Value :=
  #[v 0, .int .u64 (L.sp 0).next, .int .u64 (L.sp 0).acked, .int .u64 (L.sp 0).timeout,
    v 1, .int .u64 (L.sp 1).next, .int .u64 (L.sp 1).acked, .int .u64 (L.sp 1).timeout,
    v 2, .int .u64 (L.sp 2).next, .int .u64 (L.sp 2).acked, .int .u64 (L.sp 2).timeout,
    .int .u64 L.r.smooth, .int .u64 L.r.vary, .int .u64 L.r.latest, .int .u64 L.r.window, .int .u64 L.r.limit, .int .u64 L.r.began, .int .u64 L.last, .int .i64 L.tries]
structure RL (w : World) (q base : Nat) (L : Lg) (v : Nat → Value) : Prop where
  blk : w.heap[q]? = some (.cells (rcells L v) 65 (0, 0))
  row : ∀ i, i < 3 → RE w base (v i) (L.sp i).list
  hp : base ≤ q
theorem RL.ways {w : World} {q base : Nat} {L : Lg} {v : Nat → Value} (h : RL w q base L v) (i : Nat) (hi : i < 3) :
    w.cell? ⟨q, i * 4, none⟩ = some (v i) ∧ w.cell? ⟨q, i * 4 + 1, none⟩ = some (.int .u64 (L.sp i).next) ∧ w.cell? ⟨q, i * 4 + 2, none⟩ = some (.int .u64 (L.sp i).acked) ∧ w.cell? ⟨q, i * 4 + 3, none⟩ = some (.int .u64 (L.sp i).timeout) := by
  have : i = 0 ∨ i = 1 ∨ i = 2 := by omega
  rcases this with rfl | rfl | rfl
  · exact ⟨blk_cell h.blk 0, blk_cell h.blk 1, blk_cell h.blk 2, blk_cell h.blk 3⟩
  · exact ⟨blk_cell h.blk 4, blk_cell h.blk 5, blk_cell h.blk 6, blk_cell h.blk 7⟩
  · exact ⟨blk_cell h.blk 8, blk_cell h.blk 9, blk_cell h.blk 10, blk_cell h.blk 11⟩
theorem RL.rate {w : World} {q base : Nat} {L : Lg} {v : Nat → Value} (h : RL w q base L v) :
    w.cell? ⟨q, 12, none⟩ = some (.int .u64 L.r.smooth) ∧ w.cell? ⟨q, 13, none⟩ = some (.int .u64 L.r.vary) ∧ w.cell? ⟨q, 14, none⟩ = some (.int .u64 L.r.latest) ∧ w.cell? ⟨q, 15, none⟩ = some (.int .u64 L.r.window) ∧ w.cell? ⟨q, 16, none⟩ = some (.int .u64 L.r.limit) ∧ w.cell? ⟨q, 17, none⟩ = some (.int .u64 L.r.began) ∧ w.cell? ⟨q, 18, none⟩ = some (.int .u64 L.last) ∧ w.cell? ⟨q, 19, none⟩ = some (.int .i64 L.tries) :=
  ⟨blk_cell h.blk 12, blk_cell h.blk 13, blk_cell h.blk 14, blk_cell h.blk 15, blk_cell h.blk 16, blk_cell h.blk 17, blk_cell h.blk 18, blk_cell h.blk 19⟩
theorem RL.fz {w : World} {q base : Nat} {L : Lg} {v : Nat → Value} (h : RL w q base L v) (j : Nat) : w.frozen? ⟨q, j, none⟩ = false := blk_frozen h.blk j
theorem RL.row_ne {w : World} {q base : Nat} {L : Lg} {v : Nat → Value} (h : RL w q base L v) (i : Nat) (hi : i < 3) : (v i).ownBlock ≠ some q := by
  intro e
  obtain ⟨c, hc⟩ := RE_typed (h.row i hi) q e
  rw [h.blk] at hc
  injection hc with hc
  injection hc with _ h2
  exact absurd h2 (by decide)
theorem RL.stays {w w' : World} {q base : Nat} {L : Lg} {v : Nat → Value} (h : RL w q base L v) (hb : ∀ k, own q v k → w'.heap[k]? = w.heap[k]?) : RL w' q base L v :=
  ⟨(hb q (.inl rfl)).trans h.blk, fun i hi => RE_move (h.row i hi) (fun k hk => hb k (.inr ⟨i, hi, hk⟩)), h.hp⟩
theorem RL.own_base {w : World} {q base : Nat} {L : Lg} {v : Nat → Value} (h : RL w q base L v) (k : Nat) (hk : own q v k) : base ≤ k ∧ k < w.heap.size := by
  rcases hk with rfl | ⟨i, hi, e⟩
  · exact ⟨h.hp, blk_lt h.blk⟩
  · exact RE_bound (h.row i hi) k e
theorem RL.below {w w' : World} {q base : Nat} {L : Lg} {v : Nat → Value} (h : RL w q base L v) (hb : Below w.heap.size w w') : RL w' q base L v :=
  h.stays (fun k hk => hb.block k (h.own_base k hk).2)
theorem RL.drewN {w : World} {q base : Nat} {L : Lg} {v : Nat → Value} (h : RL w q base L v) (n : Nat) : RL (w.drewN n) q base L v := h.stays (fun _ _ => rfl)
theorem RL.drew {w : World} {q base : Nat} {L : Lg} {v : Nat → Value} (h : RL w q base L v) : RL w.drew q base L v := h.stays (fun _ _ => rfl)
/-- Cells turn: numbers. -/
theorem RL.put {w : World} {q base : Nat} {L L' : Lg} {v : Nat → Value} (h : RL w q base L v) (j : Nat) (u : Value) (hc : (rcells L v).setIfInBounds j u = rcells L' v) (hl : ∀ i, i < 3 → (L'.sp i).list = (L.sp i).list) : RL (w.setCell ⟨q, j, none⟩ u) q base L' v := by
  have hb := blk_set h.blk j u
  rw [hc] at hb
  refine ⟨hb, fun i hi => ?_, h.hp⟩
  rw [hl i hi]
  exact RE_move (h.row i hi) (fun k hk => Below.heap_setCell w ⟨q, j, none⟩ u k (fun e => h.row_ne i hi (by rw [hk, e])))
/-- A list turns. -/
theorem RL.lay {w : World} {q base : Nat} {L : Lg} {v : Nat → Value} (h : RL w q base L v) (i : Nat) (hi : i < 3) (u : Value) (l : List S) (hr : RE w base u l) (hn : u.ownBlock ≠ some q) : RL (w.setCell ⟨q, i * 4, none⟩ u) q base (setSp L i { L.sp i with list := l }) (setV v i u) := by
  have hb := blk_set h.blk (i * 4) u
  have far : ∀ k, k ≠ q → (w.setCell ⟨q, i * 4, none⟩ u).heap[k]? = w.heap[k]? := fun k hk => Below.heap_setCell w ⟨q, i * 4, none⟩ u k hk
  refine ⟨?_, fun k hk => ?_, h.hp⟩
  · rw [hb]
    rcases three hi with rfl | rfl | rfl <;> simp [rcells, setSp, setV]
  · by_cases e : k = i
    · subst e
      rw [setV_same, setSp_same]
      exact RE_move hr (fun b hb2 => far b (fun e => hn (by rw [hb2, e])))
    · rw [setV_other _ _ _ _ e, setSp_other _ _ _ _ e]
      exact RE_move (h.row k hk) (fun b hb2 => far b (fun e2 => h.row_ne k hk (by rw [hb2, e2])))
theorem RL.sp {w : World} {q base : Nat} {L : Lg} {v : Nat → Value} (h : RL w q base L v) (i : Nat) (hi : i < 3) (j : Nat) (s : Sp) (u : Value) (hs : s.list = (L.sp i).list) (hu : (j = 1 ∧ u = .int .u64 s.next ∧ s.acked = (L.sp i).acked ∧ s.timeout = (L.sp i).timeout) ∨ (j = 2 ∧ u = .int .u64 s.acked ∧ s.next = (L.sp i).next ∧ s.timeout = (L.sp i).timeout) ∨ (j = 3 ∧ u = .int .u64 s.timeout ∧ s.next = (L.sp i).next ∧ s.acked = (L.sp i).acked)) : RL (w.setCell ⟨q, i * 4 + j, none⟩ u) q base (setSp L i s) v := by
  refine h.put _ _ ?_ ?_
  · rcases hu with ⟨rfl, rfl, h1, h2⟩ | ⟨rfl, rfl, h1, h2⟩ | ⟨rfl, rfl, h1, h2⟩ <;> rcases three hi with rfl | rfl | rfl <;> simp [rcells, setSp, h1, h2]
  · intro k hk
    by_cases e : k = i
    · subst e; rw [setSp_same, hs]
    · rw [setSp_other _ _ _ _ e]
theorem RL.acked {w : World} {q base : Nat} {L : Lg} {v : Nat → Value} (h : RL w q base L v) (i : Nat) (hi : i < 3) (n : Int) : RL (w.setCell ⟨q, i * 4 + 2, none⟩ (.int .u64 n)) q base (setSp L i { L.sp i with acked := n }) v :=
  h.sp i hi 2 _ _ rfl (.inr (.inl ⟨rfl, rfl, rfl, rfl⟩))
theorem RL.next {w : World} {q base : Nat} {L : Lg} {v : Nat → Value} (h : RL w q base L v) (i : Nat) (hi : i < 3) (n : Int) : RL (w.setCell ⟨q, i * 4 + 1, none⟩ (.int .u64 n)) q base (setSp L i { L.sp i with next := n }) v :=
  h.sp i hi 1 _ _ rfl (.inl ⟨rfl, rfl, rfl, rfl⟩)
theorem RL.timeout {w : World} {q base : Nat} {L : Lg} {v : Nat → Value} (h : RL w q base L v) (i : Nat) (hi : i < 3) (n : Int) : RL (w.setCell ⟨q, i * 4 + 3, none⟩ (.int .u64 n)) q base (setSp L i { L.sp i with timeout := n }) v :=
  h.sp i hi 3 _ _ rfl (.inr (.inr ⟨rfl, rfl, rfl, rfl⟩))
/-- What is under way is no cell of it. -/
theorem RL.as_ {w : World} {q base : Nat} {L L' : Lg} {v : Nat → Value} (h : RL w q base L v) (hc : rcells L' v = rcells L v) (hl : ∀ i, i < 3 → (L'.sp i).list = (L.sp i).list) : RL w q base L' v :=
  ⟨by rw [hc]; exact h.blk, fun i hi => by rw [hl i hi]; exact h.row i hi, h.hp⟩

set_option maxRecDepth 100000 in
theorem rnew_calls {w : World} {base : Nat} (hb : base ≤ w.heap.size) :
    Calls Try.prog 21 #[] w fun e w' => ∃ q, e = .returned (.pointer (some ⟨q, 0, none⟩)) ∧ w.heap.size ≤ q ∧ RL w' q base newL v0 ∧ Below w.heap.size w w' := by
  go_enter Try.func21, Try.ntmps21
  go_wp2_with fail
  refine bodyPost_ret (results_tmp (t := 0) (by kernel_rfl) _ _ _) ?_ ?_
  · rfl
  exact ⟨_, rfl, Nat.le_refl _, ⟨heap_alloc_new _ _, fun i _ => Kd.R_nil _ _ _ _ _, hb⟩, Below.alloc (Below.refl _ _) (Nat.le_refl _) _⟩
theorem rpat_calls {w : World} {q base : Nat} {L : Lg} {v : Nat → Value} (h : RL w q base L v) (hb : RtB L.r) :
    Calls Try.prog 47 #[.pointer (some ⟨q, 0, none⟩)] w fun e w' => e = .returned (.int .u64 (patR L.r)) ∧ w = w' := by
  obtain ⟨k0, k1, k2, k3, k4, k5, k6, k7⟩ := h.rate
  obtain ⟨s0, s1⟩ := hb.sm
  obtain ⟨l0, l1⟩ := hb.la
  clear k1 k3 k4 k5 k6 k7
  by_cases h1 : L.r.latest > L.r.smooth
  · have hw : IntKind.u64.wrap (L.r.latest * 9) = L.r.latest * 9 := by rw [IntKind.wrap_u64]; omega
    by_cases h2 : L.r.latest * 9 / 8 < 1
    · exfalso; omega
    · go_enter Try.func47, Try.ntmps47
      go_wp2_with fail
      all_goals (go_ret; refine ⟨ret64 ?_, rfl⟩; unfold patR mx; (repeat' split) <;> omega)
  · have hw : IntKind.u64.wrap (L.r.smooth * 9) = L.r.smooth * 9 := by rw [IntKind.wrap_u64]; omega
    by_cases h2 : L.r.smooth * 9 / 8 < 1
    · go_enter Try.func47, Try.ntmps47
      go_wp2_with fail
      all_goals (go_ret; refine ⟨ret64 ?_, rfl⟩; unfold patR mx; (repeat' split) <;> omega)
    · go_enter Try.func47, Try.ntmps47
      go_wp2_with fail
      all_goals (go_ret; refine ⟨ret64 ?_, rfl⟩; unfold patR mx; (repeat' split) <;> omega)
theorem gap_calls {w : World} (a b : Int) (ha : 0 ≤ a ∧ a < 18446744073709551616) (hb : 0 ≤ b ∧ b < 18446744073709551616) :
    Calls Try.prog 41 #[.int .u64 a, .int .u64 b] w fun e w' => e = .returned (.int .u64 (mx a b - mn a b)) ∧ w = w' := by
  by_cases h : a > b
  · have hw : IntKind.u64.wrap (a - b) = a - b := by rw [IntKind.wrap_u64]; omega
    go_enter Try.func41, Try.ntmps41
    go_wp2_with fail
    go_ret
    exact ⟨ret64 (by unfold mx mn; (repeat' split) <;> omega), rfl⟩
  · have hw : IntKind.u64.wrap (b - a) = b - a := by rw [IntKind.wrap_u64]; omega
    go_enter Try.func41, Try.ntmps41
    go_wp2_with fail
    go_ret
    exact ⟨ret64 (by unfold mx mn; (repeat' split) <;> omega), rfl⟩
/-- Is a number in a span? -/
theorem rin_calls {w : World} (A : Option Addr) (c : Nat) (l : List Q) (n : Int) (hC : Kd.C kQ w A l.length l) (hl : l.length ≤ 1000000) :
    Calls Try.prog 40 #[.slice A l.length c, .int .u64 n] w fun e w' => e = .returned (.bool (l.any (inQ n))) ∧ w = w' := by
  have HC := Lib.hid hC
  clear hC
  go_enter Try.func40, Try.ntmps40
  go_wp2_with fail
  go_loop [5] (fun i => ∃ k : Nat, k ≤ l.length ∧ i = .int .i64 (k : Int) ∧ Hid (l.any (inQ n) = (l.drop k).any (inQ n))) (fun i => l.length - (intOf i).toNat)
  case atStart => exact ⟨0, by omega, rfl, Lib.hid rfl⟩
  case round =>
    obtain ⟨k, hk, rfl, HX⟩ := hrel
    by_cases hkl : k < l.length
    · obtain ⟨A', eA, j0, j1⟩ := at_Q HC.out k hkl
      subst eA
      have ed : l.drop k = rdQ l (k : Int) :: l.drop (k + 1) := by rw [rdQ_in hkl]; exact List.drop_eq_getElem_cons hkl
      have HED := Lib.hid ed
      clear ed
      obtain ⟨x, hx⟩ : ∃ x, rdQ l (k : Int) = x := ⟨_, rfl⟩
      rw [hx] at j0 j1 HED
      by_cases h1 : x.lo ≤ n
      · by_cases h2 : n ≤ x.hi
        · have e : l.any (inQ n) = true := by rw [HX.out, HED.out]; simp [inQ, h1, h2]
          have HE := Lib.hid e
          clear e
          go_wp2_with fail
          all_goals go_ret
          all_goals exact ⟨by rw [HE.out]; rfl, rfl⟩
        · have e : l.any (inQ n) = (l.drop (k + 1)).any (inQ n) := by rw [HX.out, HED.out]; simp [inQ, h1, h2]
          have HE := Lib.hid e
          clear e
          go_wp2_with fail
          all_goals exact ⟨⟨k + 1, by omega, by simp, HE⟩, by simp [intOf]; omega⟩
      · have e : l.any (inQ n) = (l.drop (k + 1)).any (inQ n) := by rw [HX.out, HED.out]; simp [inQ, h1]
        have HE := Lib.hid e
        clear e
        go_wp2_with fail
        all_goals exact ⟨⟨k + 1, by omega, by simp, HE⟩, by simp [intOf]; omega⟩
    · have e : l.any (inQ n) = false := by rw [HX.out, List.drop_of_length_le (by omega)]; rfl
      have HE := Lib.hid e
      clear e
      go_wp2_with fail
      go_ret
      exact ⟨by rw [HE.out]; rfl, rfl⟩
theorem rdrop_calls {w : World} {q base : Nat} {L : Lg} {v : Nat → Value} (h : RL w q base L v) (i : Nat) (hi : i < 3) :
    Calls Try.prog 26 #[.pointer (some ⟨q, 0, none⟩), .int .i64 (i : Int)] w fun e w' => e = .returned (.tuple #[]) ∧ RL w' q base (dropL i L) (setV v i (.slice none 0 0)) ∧ Kp q w w' := by
  have i0 : ((i : Int) < 0) = False := eq_false (by omega)
  have i1 : ((i : Int) > 2) = False := eq_false (by omega)
  have i2 : ((i : Int) ≥ 3) = False := eq_false (by omega)
  obtain ⟨k0, -, -, -⟩ := h.ways i hi
  obtain ⟨A, c, ev, -⟩ := RE_slice (h.row i hi)
  rw [ev] at k0
  have z0 := h.fz (i * 4)
  have h1 := h.lay i hi (.slice none 0 0) [] (Kd.R_nil _ _ _ _ _) (fun e => nomatch e)
  have h2 := h1.timeout i hi 0
  have h3 : RL ((((w.setCell ⟨q, i * 4, none⟩ (.slice none 0 0)).setCell ⟨q, i * 4 + 3, none⟩ (.int .u64 0)).setCell ⟨q, 19, none⟩ (.int .i64 0))) q base { setSp (setSp L i { L.sp i with list := [] }) i { (setSp L i { L.sp i with list := [] }).sp i with timeout := 0 } with tries := 0 } (setV v i (.slice none 0 0)) := h2.put 19 (.int .i64 0) rfl (fun _ _ => rfl)
  have h4 : RL ((((w.setCell ⟨q, i * 4, none⟩ (.slice none 0 0)).setCell ⟨q, i * 4 + 3, none⟩ (.int .u64 0)).setCell ⟨q, 19, none⟩ (.int .i64 0))) q base (dropL i L) (setV v i (.slice none 0 0)) := by
    refine h3.as_ ?_ ?_
    · simp only [setSp_setSp, setSp_same]; rfl
    · intro j hj; simp only [setSp_setSp, setSp_same]; rfl
  have K := (((Kp.refl q w).set (i * 4) (.slice none 0 0)).set (i * 4 + 3) (.int .u64 0)).set 19 (.int .i64 0)
  obtain ⟨-, -, -, t3⟩ := h1.ways i hi
  have z3 := h1.fz (i * 4 + 3)
  obtain ⟨-, -, -, -, -, -, -, t7⟩ := h2.rate
  have z7 := h2.fz 19
  have H4 := Lib.hid h4
  have HK := Lib.hid K
  clear h h1 h2 h3 h4 K ev
  go_enter Try.func26, Try.ntmps26
  go_wp2_with fail
  go_end0
  exact ⟨rfl, H4.out, HK.out⟩
theorem rdrop_out {w : World} (q : Nat) (s : Int) (hs : s < 0 ∨ 3 ≤ s) : Calls Try.prog 26 #[.pointer (some ⟨q, 0, none⟩), .int .i64 s] w fun e w' => e = .returned (.tuple #[]) ∧ w = w' := by
  by_cases h : s < 0
  · go_enter Try.func26, Try.ntmps26
    go_wp2_with fail
    refine bodyPost_ret (results_none rfl _ _ _) rfl ?_
    exact ⟨rfl, rfl⟩
  · have h2 : s > 2 := by omega
    go_enter Try.func26, Try.ntmps26
    go_wp2_with fail
    refine bodyPost_ret (results_none rfl _ _ _) rfl ?_
    exact ⟨rfl, rfl⟩
end Go.Proofs.Ytgdboikoejodpaa.Ref
