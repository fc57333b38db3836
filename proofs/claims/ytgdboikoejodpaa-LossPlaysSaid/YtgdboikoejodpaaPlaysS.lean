/- For the law LossPlays: Sent of any packet, at any space, by either ledger. -/
import Derived.Test.YtgdboikoejodpaaPlaysP
import Derived.Test.YtgdboikoejodpaaFlowLates
namespace Go.Proofs.Ytgdboikoejodpaa.PlaysS
open Go Go.RowKit Go.Proofs.YtgdboikoejodpaaW.PrintWords Go.Proofs.YtgdboikoejodpaaW.PrintLast Go.Proofs.YtgdboikoejodpaaW.PrintMore Go.Proofs.Ytgdboikoejodpaa.Keep Go.Proofs.Ytgdboikoejodpaa.Led Go.Proofs.Ytgdboikoejodpaa.Rate Go.Proofs.Ytgdboikoejodpaa.Rd Go.Proofs.Ytgdboikoejodpaa.Timer Go.Proofs.Ytgdboikoejodpaa.LedSp Go.Proofs.Ytgdboikoejodpaa.Drop Go.Proofs.Ytgdboikoejodpaa.In Go.Proofs.Ytgdboikoejodpaa.Split Go.Proofs.Ytgdboikoejodpaa.GoneP Go.Proofs.Ytgdboikoejodpaa.Gone Go.Proofs.Ytgdboikoejodpaa.AckP Go.Proofs.Ytgdboikoejodpaa.Ack Go.Proofs.Ytgdboikoejodpaa.Clone Go.Proofs.Ytgdboikoejodpaa.Sent Go.Proofs.Ytgdboikoejodpaa.Inv Go.Proofs.Ytgdboikoejodpaa.Fire Go.Proofs.Ytgdboikoejodpaa.Law Go.Proofs.Ytgdboikoejodpaa.Ref Go.Proofs.Ytgdboikoejodpaa.RefB Go.Proofs.Ytgdboikoejodpaa.RefLost Go.Proofs.Ytgdboikoejodpaa.RefSent Go.Proofs.Ytgdboikoejodpaa.RefAck Go.Proofs.Ytgdboikoejodpaa.RefFire Go.Proofs.Ytgdboikoejodpaa.OpenL Go.Proofs.Ytgdboikoejodpaa.PlaysP Go.Proofs.Ytgdboikoejodpaa.PlaysW Go.Proofs.Ytgdboikoejodpaa.PlaysQ Go.Proofs.Ytgdboikoejodpaa.Plays0 Go.Proofs.Ytgdboikoejodpaa.PlaysL
set_option linter.unusedVariables false

/-- Sent's answer. -/
def sentC (s : Int) (x : S) (L : Lg) : Int :=
  if s < 0 ∨ 3 ≤ s ∨ 1099511627776 < x.time ∨ 1200 < x.size ∨ 4611686018427387903 < x.pn then 2
  else if x.pn < (L.sp s.toNat).next then 9 else if 1024 ≤ (L.sp s.toNat).list.length then 42 else 0
/-- The ledger behind it; the frames lie at A', with room for c'. -/
def sentX (s : Int) (x : S) (A' : Option Addr) (c' : Nat) (L : Lg) : Lg :=
  if sentC s x L = 0 then (if x.asks then sentL s.toNat { x with fa := A', fc := c' } L else setSp L s.toNat { L.sp s.toNat with next := x.pn + 1 }) else L
theorem p_sent {w0 w : World} {p q n : Nat} {Lp Lr : Lg} {v u : Nat → Value} (h : PL w0 w p q n Lp Lr v u) (s : Int) (hs : -9223372036854775808 ≤ s ∧ s ≤ 9223372036854775807) (x : S) (hu : uk x)
    (fr : List F) (hfn : x.fn = fr.length) (hfc : Kd.C kR w x.fa fr.length fr) (hfm : fr.length ≤ 1000000) (hfp : ∀ a, x.fa = some a → 0 < fr.length → a.block < w.heap.size ∧ a.block ≠ p) :
    Calls Try.prog 12 #[.pointer (some ⟨p, 0, none⟩), .int .i64 s, argS x] w fun e w' => e = .returned (.int .i64 (sentC s x Lp)) ∧ ∃ A' c' v', (∀ Lr u, PL w0 w p q n Lp Lr v u → PL w0 w' p q n (sentX s x A' c' Lp) Lr v' u) ∧ KL (own p v) w w' := by
  have hb := h.lw.inv.b
  by_cases hbad : bad s x
  · have hc : sentC s x Lp = 2 := if_pos hbad
    refine (sent_range p s x hs hu hbad).mono ?_
    rintro e w' ⟨rfl, B⟩
    refine ⟨by rw [hc], none, 0, v, fun Lr u h => ?_, KL.of_below B⟩
    unfold sentX
    rw [if_neg (by rw [hc]; decide)]
    exact h.go B
  · obtain ⟨e1, e2⟩ := of_in (s := s) (by unfold bad at hbad; omega)
    have hbad' : ¬ bad ((s.toNat : Nat) : Int) x := by rw [e1]; exact hbad
    by_cases hn : x.pn < (Lp.sp s.toNat).next
    · have hc : sentC s x Lp = 9 := (if_neg hbad).trans (if_pos hn)
      have hd := sent_order h.lw.led s.toNat e2 x hu hbad' hn
      rw [e1] at hd
      refine hd.mono ?_
      rintro e w' ⟨rfl, B⟩
      refine ⟨by rw [hc], none, 0, v, fun Lr u h => ?_, KL.of_below B⟩
      unfold sentX
      rw [if_neg (by rw [hc]; decide)]
      exact h.go B
    · by_cases hf : 1024 ≤ (Lp.sp s.toNat).list.length
      · have hc : sentC s x Lp = 42 := (if_neg hbad).trans ((if_neg hn).trans (if_pos hf))
        have hd := sent_full h.lw.led s.toNat e2 x hu hbad' (by omega) hf (hb.many _ e2)
        rw [e1] at hd
        refine hd.mono ?_
        rintro e w' ⟨rfl, B⟩
        refine ⟨by rw [hc], none, 0, v, fun Lr u h => ?_, KL.of_below B⟩
        unfold sentX
        rw [if_neg (by rw [hc]; decide)]
        exact h.go B
      · have hc : sentC s x Lp = 0 := (if_neg hbad).trans ((if_neg hn).trans (if_neg hf))
        have hrange : 0 ≤ x.pn ∧ x.pn ≤ 4611686018427387903 ∧ 0 ≤ x.time ∧ x.time ≤ 1099511627776 ∧ 0 ≤ x.size ∧ x.size ≤ 1200 := by
          obtain ⟨u1, u2, u3, u4, u5, u6⟩ := hu
          unfold bad at hbad
          omega
        cases ha : x.asks with
        | false =>
          have hd := sent_quiet h.lw.led s.toNat e2 x hu hbad' (by omega) (by omega) ha
          rw [e1] at hd
          refine hd.mono ?_
          rintro e w' ⟨rfl, hl, hk⟩
          refine ⟨by rw [hc], none, 0, v, fun Lr u h => ?_, KL.of_kp hk (.inl rfl)⟩
          unfold sentX
          rw [if_pos hc, if_neg (by rw [ha]; decide)]
          exact h.prog e2 ⟨hl, nextN h.lw.inv s.toNat e2 (x.pn + 1) (by omega), hk.below h.lw.below h.lw.below.size h.lw.led.hp⟩ (KL.of_kp' hk) (fun i b hi e => .inl e)
        | true =>
          have hd := sent_asks h.lw.led s.toNat e2 x hu hbad' (by omega) (by omega) ha (by have := h.lw.inv.flight; omega) h.lw.inv.b.last fr hfn hfc hfm hfp
          rw [e1] at hd
          refine hd.mono ?_
          rintro e w' ⟨rfl, A', c', v', hl, hr, hv, hk, hnn⟩
          refine ⟨by rw [hc], A', c', setV v s.toNat v', fun Lr u h => ?_, ⟨hk.os, hk.tape, hk.output, hk.size, fun k hk1 hk2 => hk.block k hk1 (fun hh => hk2 ?_)⟩⟩
          · unfold sentX
            rw [if_pos hc, if_pos ha]
            have hy : ({ x with fa := A', fc := c' } : S) = ⟨x.pn, x.time, x.size, true, A', fr.length, c'⟩ := by rw [← ha, ← hfn]
            rw [hy]
            refine h.prog e2 ⟨hl, sentN h.lw.inv s.toNat e2 ⟨x.pn, x.time, x.size, true, A', fr.length, c'⟩ hrange (by omega), hk.below h.lw.below h.lw.below.size (fun k hk => ?_)⟩ hk (fun i b hi e => ?_)
            · rcases hk with rfl | hk
              · exact h.lw.led.hp
              · exact (h.lw.led.own_base k (.inr ⟨_, e2, hk⟩)).1
            · by_cases hij : i = s.toNat
              · subst hij
                rw [setV_same] at e
                rcases hv with h1 | ⟨b', h1, h2⟩
                · exact .inl (h1 ▸ e)
                · rw [h1] at e; injection e with e; exact .inr (by omega)
              · rw [setV_other _ _ _ _ hij] at e; exact .inl e
          · rcases hh with rfl | hh
            · exact .inl rfl
            · exact .inr ⟨_, e2, hh⟩
theorem r_sent {w0 w : World} {p q n m : Nat} {Lp Lr : Lg} {v u : Nat → Value} (h : PL w0 w p q n Lp Lr v u) (hN : LgN m Lr) (s : Int) (hs : -9223372036854775808 ≤ s ∧ s ≤ 9223372036854775807) (x : S) (hu : uk x) :
    Calls Try.prog 27 #[.pointer (some ⟨q, 0, none⟩), .int .i64 s, argS x] w fun e w' => e = .returned (.int .i64 (sentC s x Lr)) ∧ ∃ u', (∀ A' c', PL w0 w' p q n Lp (sentX s x A' c' Lr) v u') ∧ Kp q w w' := by
  have hb := hN.b
  by_cases hbad : bad s x
  · have hc : sentC s x Lr = 2 := if_pos hbad
    refine (rsent_range q s x hs hu hbad).mono ?_
    rintro e w' ⟨rfl, B⟩
    refine ⟨by rw [hc], u, fun A' c' => ?_, Kp.of_below B⟩
    unfold sentX
    rw [if_neg (by rw [hc]; decide)]
    exact h.go B
  · obtain ⟨e1, e2⟩ := of_in (s := s) (by unfold bad at hbad; omega)
    have hbad' : ¬ bad ((s.toNat : Nat) : Int) x := by rw [e1]; exact hbad
    by_cases hn : x.pn < (Lr.sp s.toNat).next
    · have hc : sentC s x Lr = 9 := (if_neg hbad).trans (if_pos hn)
      have hd := rsent_order h.rl s.toNat e2 x hu hbad' hn
      rw [e1] at hd
      refine hd.mono ?_
      rintro e w' ⟨rfl, B⟩
      refine ⟨by rw [hc], u, fun A' c' => ?_, Kp.of_below B⟩
      unfold sentX
      rw [if_neg (by rw [hc]; decide)]
      exact h.go B
    · by_cases hf : 1024 ≤ (Lr.sp s.toNat).list.length
      · have hc : sentC s x Lr = 42 := (if_neg hbad).trans ((if_neg hn).trans (if_pos hf))
        have hd := rsent_full h.rl s.toNat e2 x hu hbad' (by omega) hf (hb.many _ e2)
        rw [e1] at hd
        refine hd.mono ?_
        rintro e w' ⟨rfl, B⟩
        refine ⟨by rw [hc], u, fun A' c' => ?_, Kp.of_below B⟩
        unfold sentX
        rw [if_neg (by rw [hc]; decide)]
        exact h.go B
      · have hc : sentC s x Lr = 0 := (if_neg hbad).trans ((if_neg hn).trans (if_neg hf))
        cases ha : x.asks with
        | false =>
          have hd := rsent_quiet h.rl s.toNat e2 x hu hbad' (by omega) (by omega) ha
          rw [e1] at hd
          refine hd.mono ?_
          rintro e w' ⟨rfl, hl, hk⟩
          refine ⟨by rw [hc], u, fun A' c' => ?_, hk⟩
          unfold sentX
          rw [if_pos hc, if_neg (by rw [ha]; decide)]
          exact h.ref hl hk (fun i b hi e => .inl e)
        | true =>
          have hd := rsent_asks h.rl s.toNat e2 x hu hbad' (by omega) (by omega) ha hb.last
          rw [e1] at hd
          refine hd.mono ?_
          rintro e w' ⟨rfl, v', hl, hv, hk⟩
          refine ⟨by rw [hc], setV u s.toNat v', fun A' c' => ?_, hk⟩
          unfold sentX
          rw [if_pos hc, if_pos ha]
          refine h.ref ?_ hk (fun i b hi e => ?_)
          · refine ⟨?_, fun i hi => ?_, hl.hp⟩
            · rw [hl.blk]
              rcases three e2 with e | e | e <;> rw [e] <;> rfl
            · refine RE_sub (hl.row i hi) ?_ ?_
              · by_cases hij : i = s.toNat
                · subst hij; simp [sentL, setSp_same]
                · simp [sentL, setSp_other _ _ _ _ hij]
              · intro j y hy
                by_cases hij : i = s.toNat
                · subst hij
                  simp only [sentL, setSp_same] at hy ⊢
                  by_cases hj : j < (Lr.sp s.toNat).list.length
                  · rw [List.getElem?_append_left hj] at hy ⊢
                    exact ⟨y, hy, rfl, rfl, rfl, rfl, rfl⟩
                  · rw [List.getElem?_append_right (by omega)] at hy ⊢
                    cases hz : j - (Lr.sp s.toNat).list.length with
                    | zero => rw [hz] at hy; injection hy with hy; subst hy; exact ⟨x, rfl, rfl, rfl, rfl, rfl, rfl⟩
                    | succ z => rw [hz] at hy; cases hy
                · simp only [sentL, setSp_other _ _ _ _ hij] at hy ⊢
                  exact ⟨y, hy, rfl, rfl, rfl, rfl, rfl⟩
          · by_cases hij : i = s.toNat
            · subst hij; rw [setV_same] at e; exact .inr (hv b e)
            · rw [setV_other _ _ _ _ hij] at e; exact .inl e
theorem CR_lt {w : World} {a : Addr} {n : Nat} {xs : List F} (h : Kd.C kR w (some a) n xs) (hn : 0 < n) : a.block < w.heap.size := by
  obtain ⟨ad, e, hc⟩ := h.2.2 hn
  injection e with e
  subst e
  obtain ⟨x, hx⟩ : ∃ x, xs[0]? = some x := ⟨xs[0]'(by have := h.1; omega), List.getElem?_eq_getElem _⟩
  obtain ⟨c, hs, hr, hcell⟩ := hc 0 x hx
  have hr : c = x.cells := hr
  subst hr
  have := World.block_lt_of_cell? w _ (hcell 0 _ rfl)
  have e1 : (a.add (0 * kR.sz + 0)).block = a.block := by unfold Addr.add; split <;> rfl
  rwa [e1] at this

/-- Both Sents, in any order: which of them are done. -/
def SS (w0 : World) (p q n : Nat) (L : Lg) (v u : Nat → Value) (s : Int) (x : S) (c d : Bool) (W : World) : Prop :=
  match c, d with
  | false, false => PL w0 W p q n L L v u
  | true, false => ∃ A' c' v', PL w0 W p q n (sentX s x A' c' L) L v' u
  | false, true => ∃ u', ∀ A' c', PL w0 W p q n L (sentX s x A' c' L) v u'
  | true, true => ∃ A' c' v' u', PL w0 W p q n (sentX s x A' c' L) (sentX s x A' c' L) v' u'
structure SG (w0 : World) (p q n : Nat) (L : Lg) (v u : Nat → Value) (s : Int) (x : S) (fr : List F) (k : Nat) (ob : Obj) (c d : Bool) (W : World) : Prop where
  bx : W.heap[k]? = some ob
  fr : c = false → Kd.C kR W x.fa fr.length fr
  st : SS w0 p q n L v u s x c d W
/-- What does not turn. -/
structure SF (p q : Nat) (v : Nat → Value) (s : Int) (x : S) (fr : List F) (k : Nat) : Prop where
  s : -9223372036854775808 ≤ s ∧ s ≤ 9223372036854775807
  u : uk x
  fn : x.fn = fr.length
  fm : fr.length ≤ 1000000
  fp : ∀ a, x.fa = some a → 0 < fr.length → a.block ≠ p ∧ a.block ≠ q
  kp : ¬ own p v k
  kq : k ≠ q
theorem SG.drew {w0 : World} {p q n : Nat} {L : Lg} {v u : Nat → Value} {s : Int} {x : S} {fr : List F} {k : Nat} {ob : Obj} {W : World} (h : SG w0 p q n L v u s x fr k ob false false W) : SG w0 p q n L v u s x fr k ob false false W.drew :=
  ⟨h.bx, fun _ => Kd.C_below (h.fr rfl) (Below.refl W.heap.size W).drew, by have h2 : PL w0 W p q n L L v u := h.st; exact h2.go (Below.refl W.heap.size W).drew⟩
theorem SG.prog {w0 : World} {p q n : Nat} {L : Lg} {v u : Nat → Value} {s : Int} {x : S} {fr : List F} {k : Nat} {ob : Obj} {d : Bool} {W : World} (hf : SF p q v s x fr k) (h : SG w0 p q n L v u s x fr k ob false d W) :
    Calls Try.prog 12 #[.pointer (some ⟨p, 0, none⟩), .int .i64 s, argS x] W fun e w' => e = .returned (.int .i64 (sentC s x L)) ∧ SG w0 p q n L v u s x fr k ob true d w' := by
  have hfp : ∀ a, x.fa = some a → 0 < fr.length → a.block < W.heap.size ∧ a.block ≠ p := fun a e hn => ⟨by have := h.fr rfl; rw [e] at this; exact CR_lt this hn, (hf.fp a e hn).1⟩
  cases d with
  | false =>
    have h2 : PL w0 W p q n L L v u := h.st
    refine (p_sent h2 s hf.s x hf.u fr hf.fn (h.fr rfl) hf.fm hfp).mono ?_
    rintro e w' ⟨rfl, A', c', v', hp, hk⟩
    exact ⟨rfl, (hk.block k (blk_lt h.bx) hf.kp).trans h.bx, (fun e => nomatch e), A', c', v', hp _ _ h2⟩
  | true =>
    obtain ⟨u', h2⟩ : ∃ u', ∀ A' c', PL w0 W p q n L (sentX s x A' c' L) v u' := h.st
    refine (p_sent (h2 none 0) s hf.s x hf.u fr hf.fn (h.fr rfl) hf.fm hfp).mono ?_
    rintro e w' ⟨rfl, A', c', v', hp, hk⟩
    exact ⟨rfl, (hk.block k (blk_lt h.bx) hf.kp).trans h.bx, (fun e => nomatch e), A', c', v', u', hp _ _ (h2 A' c')⟩
theorem SG.ref {w0 : World} {p q n : Nat} {L : Lg} {v u : Nat → Value} {s : Int} {x : S} {fr : List F} {k : Nat} {ob : Obj} {c : Bool} {W : World} (hf : SF p q v s x fr k) {m : Nat} (hN : LgN m L) (h : SG w0 p q n L v u s x fr k ob c false W) :
    Calls Try.prog 27 #[.pointer (some ⟨q, 0, none⟩), .int .i64 s, argS x] W fun e w' => e = .returned (.int .i64 (sentC s x L)) ∧ SG w0 p q n L v u s x fr k ob c true w' := by
  cases c with
  | false =>
    have h2 : PL w0 W p q n L L v u := h.st
    refine (r_sent h2 hN s hf.s x hf.u).mono ?_
    rintro e w' ⟨rfl, u', hp, hk⟩
    exact ⟨rfl, (hk.block k (blk_lt h.bx) hf.kq).trans h.bx, fun _ => CR_block (h.fr rfl) (fun a e hn => hk.block a.block (by have := h.fr rfl; rw [e] at this; exact CR_lt this hn) (hf.fp a e hn).2), u', hp⟩
  | true =>
    obtain ⟨A', c', v', h2⟩ : ∃ A' c' v', PL w0 W p q n (sentX s x A' c' L) L v' u := h.st
    refine (r_sent h2 hN s hf.s x hf.u).mono ?_
    rintro e w' ⟨rfl, u', hp, hk⟩
    exact ⟨rfl, (hk.block k (blk_lt h.bx) hf.kq).trans h.bx, (fun e => nomatch e), A', c', v', u', hp A' c'⟩
/-- A block of another type is none of a ledger's own. -/
theorem PL.none_p {w0 w : World} {p q n : Nat} {Lp Lr : Lg} {v u : Nat → Value} (h : PL w0 w p q n Lp Lr v u) {k : Nat} (hk : w.heap.size ≤ k) : ¬ own p v k := fun ho => by have := (h.lw.led.own_base k ho).2; omega
theorem PL.act_p {w0 w : World} {p q n : Nat} {Lp Lr : Lg} {v u : Nat → Value} (h : PL w0 w p q n Lp Lr v u) {k : Nat} {c : Array Value} (hk : w.heap[k]? = some (.cells c 57 (0, 0))) : ¬ own p v k := by
  rintro (rfl | ⟨i, hi, e⟩)
  · rw [h.lw.led.blk] at hk
    injection hk with hk
    injection hk with _ h2
    exact absurd h2 (by decide)
  · obtain ⟨c', hc⟩ := RS_typed (h.lw.led.row i hi) _ e
    rw [hk] at hc
    injection hc with hc
    injection hc with _ h2
    exact absurd h2 (by decide)
end Go.Proofs.Ytgdboikoejodpaa.PlaysS
