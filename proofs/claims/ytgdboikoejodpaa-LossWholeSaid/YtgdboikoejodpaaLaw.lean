/- The laws' own view of a ledger that they made: its methods, by what they make of it; Awake. -/
import Derived.Test.YtgdboikoejodpaaFire
namespace Go.Proofs.Ytgdboikoejodpaa.Law
open Go Go.RowKit Go.Proofs.YtgdboikoejodpaaW.PrintWords Go.Proofs.YtgdboikoejodpaaW.PrintLast Go.Proofs.YtgdboikoejodpaaW.PrintMore Go.Proofs.Ytgdboikoejodpaa.Keep Go.Proofs.Ytgdboikoejodpaa.Led Go.Proofs.Ytgdboikoejodpaa.Rate Go.Proofs.Ytgdboikoejodpaa.Rd Go.Proofs.Ytgdboikoejodpaa.Timer Go.Proofs.Ytgdboikoejodpaa.LedSp Go.Proofs.Ytgdboikoejodpaa.Drop Go.Proofs.Ytgdboikoejodpaa.In Go.Proofs.Ytgdboikoejodpaa.Split Go.Proofs.Ytgdboikoejodpaa.GoneP Go.Proofs.Ytgdboikoejodpaa.Gone Go.Proofs.Ytgdboikoejodpaa.AckP Go.Proofs.Ytgdboikoejodpaa.Ack Go.Proofs.Ytgdboikoejodpaa.Clone Go.Proofs.Ytgdboikoejodpaa.Sent Go.Proofs.Ytgdboikoejodpaa.Inv Go.Proofs.Ytgdboikoejodpaa.Fire
set_option linter.unusedVariables false

structure LW (w0 w : World) (p n : Nat) (L : Lg) (v : Nat → Value) : Prop where
  led : Led w p w0.heap.size L v
  inv : LgN n L
  below : Below w0.heap.size w0 w
theorem LW.go {w0 w w' : World} {p n : Nat} {L : Lg} {v : Nat → Value} (h : LW w0 w p n L v) (hb : Below w.heap.size w w') : LW w0 w' p n L v :=
  ⟨h.led.below hb, h.inv, h.below.trans (hb.mono h.below.size)⟩
theorem LW.drewN {w0 w : World} {p n : Nat} {L : Lg} {v : Nat → Value} (h : LW w0 w p n L v) (k : Nat) : LW w0 (w.drewN k) p n L v := ⟨led_drewN h.led k, h.inv, bdrewN h.below k⟩
theorem LW.hp {w0 w : World} {p n : Nat} {L : Lg} {v : Nat → Value} (h : LW w0 w p n L v) : w0.heap.size ≤ p := h.led.hp
theorem LW.lt {w0 w : World} {p n : Nat} {L : Lg} {v : Nat → Value} (h : LW w0 w p n L v) : p < w.heap.size := blk_lt h.led.blk
theorem LW.mono {w0 w : World} {p n m : Nat} {L : Lg} {v : Nat → Value} (h : LW w0 w p n L v) (hm : n ≤ m) : LW w0 w p m L v := ⟨h.led, h.inv.mono hm, h.below⟩

/-- A packet without frames. -/
def mk (pn time size : Int) : S := ⟨pn, time, size, true, none, 0, 0⟩
theorem lw_new {w0 w : World} (hb : Below w0.heap.size w0 w) : Calls Try.prog 11 #[] w fun e w' => ∃ p, e = .returned (.pointer (some ⟨p, 0, none⟩)) ∧ w.heap.size ≤ p ∧ LW w0 w' p 0 newL v0 ∧ Below w.heap.size w w' :=
  (new_calls (base := w0.heap.size) hb.size).mono (by
    rintro e w' ⟨p, rfl, hp, hl, B⟩
    exact ⟨p, rfl, hp, ⟨hl, newN, hb.trans (B.mono hb.size)⟩, B⟩)
theorem lw_sent {w0 w : World} {p n : Nat} {L : Lg} {v : Nat → Value} (h : LW w0 w p n L v) (i : Nat) (hi : i < 3) (pn time size : Int) (hx : 0 ≤ pn ∧ pn ≤ 4611686018427387903 ∧ 0 ≤ time ∧ time ≤ 1099511627776 ∧ 0 ≤ size ∧ size ≤ 1200) (hn : (L.sp i).next ≤ pn) (hl : (L.sp i).list.length < 1024) :
    Calls Try.prog 12 #[.pointer (some ⟨p, 0, none⟩), .int .i64 (i : Int), .agg #[.int .u64 pn, .int .u64 time, .int .u64 size, .bool true, .slice none 0 0]] w fun e w' => e = .returned (.int .i64 0) ∧ ∃ v', LW w0 w' p n (sentL i (mk pn time size) L) v' ∧ KL (fun k => k = p ∨ (v i).ownBlock = some k) w w' := by
  obtain ⟨h1, h2, h3, h4, h5, h6⟩ := hx
  refine (sent_asks h.led i hi (mk pn time size) ⟨h1, (by show pn < _; omega), h3, (by show time < _; omega), h5, (by show size < _; omega)⟩ (by unfold bad; show ¬ ((i : Int) < 0 ∨ 3 ≤ (i : Int) ∨ 1099511627776 < time ∨ 1200 < size ∨ 4611686018427387903 < pn); omega) hn hl rfl (by have := h.inv.flight; omega) h.inv.b.last [] rfl ⟨rfl, by simp, fun hh => absurd hh (by decide)⟩ (by simp) (fun a e => nomatch e)).mono ?_
  rintro e w' ⟨rfl, A', c', v', hl', hr, hv, hk, hn'⟩
  obtain ⟨rfl, rfl⟩ := hn' rfl
  refine ⟨rfl, _, ⟨hl', sentN h.inv i hi (mk pn time size) ⟨h1, h2, h3, h4, h5, h6⟩ hl, hk.below h.below h.below.size (fun k hk => ?_)⟩, hk⟩
  rcases hk with rfl | hk
  · exact h.led.hp
  · exact (RS_bound (h.led.row i hi) k hk).1
/-- Spans that lie in a block of their own. -/
theorem C_spans {W : World} {b : Nat} (q : Q) (h : W.heap[b]? = some (.cells #[.int .u64 q.lo, .int .u64 q.hi] 35 (0, 0))) : Kd.C kQ W (some ⟨b, 0, none⟩) 1 [q] := by
  refine ⟨rfl, by decide, fun _ => ⟨_, rfl, fun j y hj => ?_⟩⟩
  cases j with
  | succ j => simp at hj
  | zero =>
    simp at hj
    subst hj
    refine ⟨[.int .u64 q.lo, .int .u64 q.hi], rfl, rfl, fun k u hu => ?_⟩
    have hk : k < 2 := (List.getElem?_eq_some_iff.1 hu).1
    have : k = 0 ∨ k = 1 := by omega
    rcases this with rfl | rfl <;> (simp at hu; subst hu; exact blk_cell h _)
theorem lw_ack {w0 w : World} {p n : Nat} {L : Lg} {v : Nat → Value} (h : LW w0 w p n L v) (hnn : n ≤ 500000) (i : Nat) (hi : i < 3) (now : Int) (hn : 0 ≤ now ∧ now ≤ 1099511627776) (B : Option Addr) (d : Nat) (l : List Q) (hC : Kd.C kQ w B l.length l) (hq : ∀ x ∈ l, pq x) (hl : l.length ≤ 1000000) (hBp : ∀ a, B = some a → 0 < l.length → a.block ≠ p) :
    Calls Try.prog 13 #[.pointer (some ⟨p, 0, none⟩), .int .i64 (i : Int), .slice B l.length d, .int .u64 now] w fun e w' => ∃ va vl v', e = .returned (.tuple #[va, vl, .int .i64 (ackL i l now L).2.2.1]) ∧ LW w0 w' p (n + 1) (ackL i l now L).2.2.2 v' ∧ RS w' w.heap.size va (ackL i l now L).1 ∧ RS w' w.heap.size vl (ackL i l now L).2.1 ∧ Kp p w w' := by
  refine (ack_calls h.led h.inv.b i hi (h.inv.fl i hi) (h.inv.wi hnn) now hn B d l hC hq hl hBp).mono ?_
  rintro e w' ⟨va, vl, v', rfl, h1, h2, h3, h4, h5⟩
  exact ⟨va, vl, v', rfl, ⟨h1, ackN h.inv hnn i hi l hq now hn, h5.below h.below h.below.size h.led.hp⟩, h2, h3, h5⟩
theorem lw_one {w0 w : World} {p n : Nat} {L : Lg} {v : Nat → Value} (h : LW w0 w p n L v) (hnn : n ≤ 500000) (i : Nat) (hi : i < 3) (now : Int) (hn : 0 ≤ now ∧ now ≤ 1099511627776) (b d : Nat) (q : Q) (hb : w.heap[b]? = some (.cells #[.int .u64 q.lo, .int .u64 q.hi] 35 (0, 0))) (hq : pq q) :
    Calls Try.prog 13 #[.pointer (some ⟨p, 0, none⟩), .int .i64 (i : Int), .slice (some ⟨b, 0, none⟩) 1 d, .int .u64 now] w fun e w' => ∃ va vl v', e = .returned (.tuple #[va, vl, .int .i64 (ackL i [q] now L).2.2.1]) ∧ LW w0 w' p (n + 1) (ackL i [q] now L).2.2.2 v' ∧ RS w' w.heap.size va (ackL i [q] now L).1 ∧ RS w' w.heap.size vl (ackL i [q] now L).2.1 ∧ Kp p w w' := by
  refine lw_ack h hnn i hi now hn (some ⟨b, 0, none⟩) d [q] (C_spans q hb) (fun x hx => by rw [List.mem_singleton.1 hx]; exact hq) (by simp) (fun a e _ => ?_)
  injection e with e
  subst e
  intro e
  have e : b = p := e
  subst e
  rw [h.led.blk] at hb
  injection hb with hb
  injection hb with _ h2
  exact absurd h2 (by decide)
theorem lw_state {w0 w : World} {p n : Nat} {L : Lg} {v : Nat → Value} (h : LW w0 w p n L v) :
    Calls Try.prog 14 #[.pointer (some ⟨p, 0, none⟩)] w fun e w' => e = .returned (.tuple #[.int .u64 L.r.window, .int .u64 L.r.flight, .int .u64 L.r.smooth, .int .u64 L.r.vary]) ∧ ∃ k, w' = w.drewN k := state_calls h.led
theorem lw_fire {w0 w : World} {p n : Nat} {L : Lg} {v : Nat → Value} (h : LW w0 w p n L v) (hnn : n ≤ 500000) (now : Int) (hn : 0 ≤ now ∧ now < 18446744073709551616) :
    Calls Try.prog 19 #[.pointer (some ⟨p, 0, none⟩), .int .u64 now] w fun e w' => ∃ o v' : Nat → Value, e = .returned (.tuple #[.agg #[o 0, o 1, o 2], .bool (fireL now L).2.2]) ∧ LW w0 w' p (n + 1) (fireL now L).1 v' ∧ (∀ j, j < 3 → RS w' (w.heap.size + 1) (o j) ((fireL now L).2.1 j)) ∧ Kp p w w' := by
  refine (fire_calls h.led h.inv hnn now hn).mono ?_
  rintro e w' ⟨o, v', rfl, hf⟩
  exact ⟨o, v', rfl, ⟨hf.led, fireN h.inv hnn now hn.1, hf.kp.below h.below h.below.size h.led.hp⟩, hf.rows, hf.kp⟩
theorem lw_drop {w0 w : World} {p n : Nat} {L : Lg} {v : Nat → Value} (h : LW w0 w p n L v) (i : Nat) (hi : i < 3) :
    Calls Try.prog 17 #[.pointer (some ⟨p, 0, none⟩), .int .i64 (i : Int)] w fun e w' => e = .returned (.tuple #[]) ∧ ∃ v', LW w0 w' p n (dropL i L) v' ∧ Kp p w w' := by
  refine (drop_calls h.led h.inv.b i hi (h.inv.fl i hi)).mono ?_
  rintro e w' ⟨rfl, h1, h2⟩
  exact ⟨rfl, _, ⟨h1, dropN h.inv i hi, h2.below h.below h.below.size h.led.hp⟩, h2⟩

def awL : Lg := sentL 0 (mk 0 10 1000) newL
theorem aw_fact : (ackL 0 [⟨0, 0⟩] 60 awL).1.length = 1 ∧ (ackL 0 [⟨0, 0⟩] 60 awL).2.1.length = 0 ∧ (ackL 0 [⟨0, 0⟩] 60 awL).2.2.1 = 0 ∧ (ackL 0 [⟨0, 0⟩] 60 awL).2.2.2.r.window = 13000 ∧ (ackL 0 [⟨0, 0⟩] 60 awL).2.2.2.r.flight = 0 ∧ (ackL 0 [⟨0, 0⟩] 60 awL).2.2.2.r.smooth = 50 ∧ (ackL 0 [⟨0, 0⟩] 60 awL).2.2.2.r.vary = 25 := by decide +kernel
set_option maxHeartbeats 2000000 in
set_option maxRecDepth 100000 in
theorem awake (w : World) : Calls Try.prog 10 #[] w fun e w' => e = .returned (.bool true) ∧ Below w.heap.size w w' := by
  have NE := Lib.hid (lw_new (Below.refl w.heap.size w))
  go_enter Try.func10, Try.ntmps10
  go_wp2_with fail
  refine NE.out.mono ?_
  rintro e w1 ⟨p, rfl, hp, H1, -⟩
  have H1 := Lib.hid H1
  clear NE
  go_wp2_with fail
  refine (lw_sent H1.out 0 (by omega) 0 10 1000 ⟨by omega, by omega, by omega, by omega, by omega, by omega⟩ (by decide) (by decide)).mono ?_
  rintro e w2 ⟨rfl, v2, H2, -⟩
  have H2 := Lib.hid H2
  go_wp2_with fail
  refine (lw_one (H2.out.go ((Below.refl _ _).alloc (Nat.le_refl _) _)) (by omega) 0 (by omega) 60 ⟨by omega, by omega⟩ w2.heap.size 1 ⟨0, 0⟩ (heap_alloc_new _ _) ⟨by decide, by decide, by decide, by decide⟩).mono ?_
  obtain ⟨a1, a2, a3, a4, a5, a6, a7⟩ := aw_fact
  have ea : sentL 0 (mk 0 10 1000) newL = awL := rfl
  rw [ea]
  obtain ⟨t, ht⟩ : ∃ t, ackL 0 [⟨0, 0⟩] 60 awL = t := ⟨_, rfl⟩
  rw [ht] at a1 a2 a3 a4 a5 a6 a7
  simp only [ht]
  clear ht
  rintro e w3 ⟨va, vl, v3, rfl, H3, R1, R2, -⟩
  obtain ⟨A1, c1, e1, -⟩ := row_slice R1
  obtain ⟨A2, c2, e2, -⟩ := row_slice R2
  rw [a1] at e1
  rw [a2] at e2
  subst e1 e2
  rw [a3]
  have H3 := Lib.hid H3
  clear R1 R2
  go_wp2_with fail
  have ST := lw_state H3.out
  rw [a4, a5, a6, a7] at ST
  refine ST.mono ?_
  rintro e w4 ⟨rfl, k4, rfl⟩
  go_wp2_with fail
  go_ret
  exact ⟨rfl, bdrewN H3.out.below _⟩
end Go.Proofs.Ytgdboikoejodpaa.Law
