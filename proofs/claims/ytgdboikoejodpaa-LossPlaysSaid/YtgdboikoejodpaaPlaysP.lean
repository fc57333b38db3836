/- For the law LossPlays: calls out of range; both ledgers beside each other; the acts as they come in. -/
import Derived.Test.YtgdboikoejodpaaRefAck
import Derived.Test.YtgdboikoejodpaaRefFire
import Derived.Test.YtgdboikoejodpaaFlowLates
import Derived.Test.YtgdboikoejodpaaOpenL
namespace Go.Proofs.Ytgdboikoejodpaa.PlaysP
open Go Go.RowKit Go.Proofs.YtgdboikoejodpaaW.PrintWords Go.Proofs.YtgdboikoejodpaaW.PrintLast Go.Proofs.YtgdboikoejodpaaW.PrintMore Go.Proofs.Ytgdboikoejodpaa.Keep Go.Proofs.Ytgdboikoejodpaa.Led Go.Proofs.Ytgdboikoejodpaa.Rate Go.Proofs.Ytgdboikoejodpaa.Rd Go.Proofs.Ytgdboikoejodpaa.Timer Go.Proofs.Ytgdboikoejodpaa.LedSp Go.Proofs.Ytgdboikoejodpaa.Drop Go.Proofs.Ytgdboikoejodpaa.In Go.Proofs.Ytgdboikoejodpaa.Split Go.Proofs.Ytgdboikoejodpaa.GoneP Go.Proofs.Ytgdboikoejodpaa.Gone Go.Proofs.Ytgdboikoejodpaa.AckP Go.Proofs.Ytgdboikoejodpaa.Ack Go.Proofs.Ytgdboikoejodpaa.Clone Go.Proofs.Ytgdboikoejodpaa.Sent Go.Proofs.Ytgdboikoejodpaa.Inv Go.Proofs.Ytgdboikoejodpaa.Fire Go.Proofs.Ytgdboikoejodpaa.Law Go.Proofs.Ytgdboikoejodpaa.Ref Go.Proofs.Ytgdboikoejodpaa.RefB Go.Proofs.Ytgdboikoejodpaa.RefLost Go.Proofs.Ytgdboikoejodpaa.RefSent Go.Proofs.Ytgdboikoejodpaa.RefAck Go.Proofs.Ytgdboikoejodpaa.RefFire Go.Proofs.Ytgdboikoejodpaa.Opens Go.Proofs.Ytgdboikoejodpaa.OpenL
set_option linter.unusedVariables false

/-- Acks of no space, or too late. -/
def off (s now : Int) : Prop := s < 0 ∨ 3 ≤ s ∨ 1099511627776 < now
set_option maxHeartbeats 1000000 in
set_option maxRecDepth 100000 in
theorem ack_out {w : World} (p : Nat) (s now : Int) (B : Option Addr) (n d : Nat) (ho : off s now) :
    Calls Try.prog 13 #[.pointer (some ⟨p, 0, none⟩), .int .i64 s, .slice B n d, .int .u64 now] w fun e w' => e = .returned (.tuple #[.slice none 0 0, .slice none 0 0, .int .i64 2]) ∧ Below w.heap.size w w' := by
  have HB := Lib.hid ((Below.refl w.heap.size w).alloc (Nat.le_refl _) (.cells #[.slice B n d] 36))
  by_cases h1 : s < 0
  · go_enter Try.func13, Try.ntmps13
    go_wp2_with fail
    go_ret3
    exact ⟨rfl, HB.out⟩
  · by_cases h2 : 3 ≤ s
    · go_enter Try.func13, Try.ntmps13
      go_wp2_with fail
      go_ret3
      exact ⟨rfl, HB.out⟩
    · have h3 : 1099511627776 < now := by unfold off at ho; omega
      clear ho
      go_enter Try.func13, Try.ntmps13
      go_wp2_with fail
      go_ret3
      exact ⟨rfl, HB.out⟩
set_option maxHeartbeats 1000000 in
set_option maxRecDepth 100000 in
theorem rack_out {w : World} (q : Nat) (s now : Int) (B : Option Addr) (n d : Nat) (ho : off s now) :
    Calls Try.prog 22 #[.pointer (some ⟨q, 0, none⟩), .int .i64 s, .slice B n d, .int .u64 now] w fun e w' => e = .returned (.tuple #[.slice none 0 0, .slice none 0 0, .int .i64 2]) ∧ w = w' := by
  by_cases h1 : s < 0
  · go_enter Try.func22, Try.ntmps22
    go_wp2_with fail
    go_ret3
    exact ⟨rfl, rfl⟩
  · by_cases h2 : s > 2
    · go_enter Try.func22, Try.ntmps22
      go_wp2_with fail
      go_ret3
      exact ⟨rfl, rfl⟩
    · have h3 : 1099511627776 < now := by unfold off at ho; omega
      clear ho
      go_enter Try.func22, Try.ntmps22
      go_wp2_with fail
      go_ret3
      exact ⟨rfl, rfl⟩
theorem drop_out {w : World} (p : Nat) (s : Int) (ho : s < 0 ∨ 3 ≤ s) :
    Calls Try.prog 17 #[.pointer (some ⟨p, 0, none⟩), .int .i64 s] w fun e w' => e = .returned (.tuple #[]) ∧ w = w' := by
  by_cases h1 : s < 0
  · go_enter Try.func17, Try.ntmps17
    go_wp2_with fail
    refine bodyPost_ret (results_none rfl _ _ _) rfl ?_
    exact ⟨rfl, rfl⟩
  · have h2 : 3 ≤ s := by omega
    go_enter Try.func17, Try.ntmps17
    go_wp2_with fail
    refine bodyPost_ret (results_none rfl _ _ _) rfl ?_
    exact ⟨rfl, rfl⟩

/-- Both ledgers, apart from each other. -/
structure PL (w0 w : World) (p q n : Nat) (Lp Lr : Lg) (v u : Nat → Value) : Prop where
  lw : LW w0 w p n Lp v
  rl : RL w q w0.heap.size Lr u
  ap : ∀ i j b, i < 3 → j < 3 → (v i).ownBlock = some b → (u j).ownBlock ≠ some b
theorem PL.ne {w0 w : World} {p q n : Nat} {Lp Lr : Lg} {v u : Nat → Value} (h : PL w0 w p q n Lp Lr v u) : p ≠ q := by
  intro e
  have h1 := h.lw.led.blk
  rw [e, h.rl.blk] at h1
  injection h1 with h1
  injection h1 with _ h2
  exact absurd h2 (by decide)
/-- The one's blocks are none of the other's. -/
theorem PL.own_u {w0 w : World} {p q n : Nat} {Lp Lr : Lg} {v u : Nat → Value} (h : PL w0 w p q n Lp Lr v u) (k : Nat) (hk : Led.own q u k) : k ≠ p ∧ ∀ i, i < 3 → (v i).ownBlock ≠ some k := by
  rcases hk with rfl | ⟨j, hj, e⟩
  · refine ⟨fun e => h.ne e.symm, fun i hi e => ?_⟩
    obtain ⟨c, hc⟩ := RS_typed (h.lw.led.row i hi) _ e
    rw [h.rl.blk] at hc
    injection hc with hc
    injection hc with _ h2
    exact absurd h2 (by decide)
  · refine ⟨fun e2 => ?_, fun i hi e2 => h.ap i j k hi hj e2 e⟩
    subst e2
    obtain ⟨c, hc⟩ := RE_typed (h.rl.row j hj) _ e
    rw [h.lw.led.blk] at hc
    injection hc with hc
    injection hc with _ h2
    exact absurd h2 (by decide)
theorem PL.own_v {w0 w : World} {p q n : Nat} {Lp Lr : Lg} {v u : Nat → Value} (h : PL w0 w p q n Lp Lr v u) (k : Nat) (hk : Led.own p v k) : k ≠ q := by
  rintro rfl
  rcases hk with e | ⟨i, hi, e⟩
  · exact h.ne e.symm
  · exact (h.own_u _ (.inl rfl)).2 i hi e
theorem PL.go {w0 w w' : World} {p q n : Nat} {Lp Lr : Lg} {v u : Nat → Value} (h : PL w0 w p q n Lp Lr v u) (hb : Below w.heap.size w w') : PL w0 w' p q n Lp Lr v u := ⟨h.lw.go hb, h.rl.below hb, h.ap⟩
theorem PL.drewN {w0 w : World} {p q n : Nat} {Lp Lr : Lg} {v u : Nat → Value} (h : PL w0 w p q n Lp Lr v u) (k : Nat) : PL w0 (w.drewN k) p q n Lp Lr v u := ⟨h.lw.drewN k, h.rl.drewN k, h.ap⟩
theorem PL.mono {w0 w : World} {p q n m : Nat} {Lp Lr : Lg} {v u : Nat → Value} (h : PL w0 w p q n Lp Lr v u) (hm : n ≤ m) : PL w0 w p q m Lp Lr v u := ⟨h.lw.mono hm, h.rl, h.ap⟩
/-- The program's ledger turns. -/
theorem PL.prog {w0 w w' : World} {p q n n' i : Nat} {Lp Lr L' : Lg} {v u v' : Nat → Value} (h : PL w0 w p q n Lp Lr v u) (hi : i < 3) (hl : LW w0 w' p n' L' v') (hk : KL (fun k => k = p ∨ (v i).ownBlock = some k) w w') (hv : ∀ i b, i < 3 → (v' i).ownBlock = some b → (v i).ownBlock = some b ∨ w.heap.size ≤ b) : PL w0 w' p q n' L' Lr v' u := by
  refine ⟨hl, h.rl.stays (fun k hk2 => hk.block k (h.rl.own_base k hk2).2 (fun e => ?_)), fun i j b hi hj e e2 => ?_⟩
  · rcases e with e | e
    · exact (h.own_u k hk2).1 e
    · exact (h.own_u k hk2).2 i hi e
  · rcases hv i b hi e with h1 | h1
    · exact h.ap i j b hi hj h1 e2
    · have := (RE_bound (h.rl.row j hj) b e2).2; omega
/-- The reference's ledger turns. -/
theorem PL.ref {w0 w w' : World} {p q n : Nat} {Lp Lr L' : Lg} {v u u' : Nat → Value} (h : PL w0 w p q n Lp Lr v u) (hl : RL w' q w0.heap.size L' u') (hk : Kp q w w') (hu : ∀ i b, i < 3 → (u' i).ownBlock = some b → (u i).ownBlock = some b ∨ w.heap.size ≤ b) : PL w0 w' p q n Lp L' v u' := by
  refine ⟨⟨h.lw.led.stays (fun k hk2 => hk.block k (h.lw.led.own_base k hk2).2 (h.own_v k hk2)), h.lw.inv, hk.below h.lw.below h.lw.below.size h.rl.hp⟩, hl, fun i j b hi hj e e2 => ?_⟩
  rcases hu j b hj e2 with h1 | h1
  · exact h.ap i j b hi hj e h1
  · have := (RS_bound (h.lw.led.row i hi) b e).2; omega
theorem KL.of_kp' {p : Nat} {o : Nat → Prop} {w w' : World} (h : Kp p w w') : KL (fun k => k = p ∨ o k) w w' := KL.of_kp h (.inl rfl)
/-- Lists that are the same but for where frames lie. -/
theorem RE_sub {W : World} {base : Nat} {v : Value} {l l' : List S} (h : RE W base v l) (hl : l'.length = l.length) (hs : ∀ (j : Nat) (x : S), l'[j]? = some x → ∃ y, l[j]? = some y ∧ y.pn = x.pn ∧ y.time = x.time ∧ y.size = x.size ∧ y.asks = x.asks ∧ y.fn = x.fn) : RE W base v l' := by
  obtain ⟨h0, inner, ho, hr⟩ := h
  refine ⟨h0, inner, by rw [hl]; exact ho, by rw [hl]; exact hr.1, fun j x hx => ?_⟩
  obtain ⟨y, hy, e1, e2, e3, e4, e5⟩ := hs j x hx
  obtain ⟨A, c, hc⟩ := hr.2 j y hy
  exact ⟨A, c, by rw [hc]; simp only [eCells, e1, e2, e3, e4, e5]⟩

/-- An act, as it comes in. -/
structure A where
  kind : Int
  in_ : Int
  n : Int
  wait : Int
  size : Int
  asks : Bool
  p : P
  spans : List Q
  space : Int
def A.tup (x : A) : Int × Int × Int × Int × Int × Bool × P × List Q × Int := (x.kind, x.in_, x.n, x.wait, x.size, x.asks, x.p, x.spans, x.space)
def kA : Kd A := Kd.iso (Kd.pair (Kd.int .u8) (Kd.pair (Kd.int .u8) (Kd.pair (Kd.int .u8) (Kd.pair (Kd.int .u16) (Kd.pair (Kd.int .u16) (Kd.pair Kd.bool (Kd.pair kP (Kd.pair (Kd.slice 35 kQ) (Kd.int .i64))))))))) A.tup
def BA (x : A) : Prop := (Lit.int .u8 x.kind).wf = true ∧ (Lit.int .u8 x.in_).wf = true ∧ (Lit.int .u8 x.n).wf = true ∧ (Lit.int .u16 x.wait).wf = true ∧ (Lit.int .u16 x.size).wf = true ∧ True ∧ BP x.p ∧ (x.spans.length ≤ 9223372036854775807 ∧ ∀ s ∈ x.spans, BQ s) ∧ (Lit.int .i64 x.space).wf = true
theorem kA_open {w : World} {x : A} {cs : List Value} (h : kA.K w x cs) : ∃ F f B d, cs = [.int .u8 x.kind, .int .u8 x.in_, .int .u8 x.n, .int .u16 x.wait, .int .u16 x.size, .bool x.asks, .int .u64 x.p.pn, .int .u64 x.p.time, .int .u64 x.p.size, .bool x.p.asks, .slice F x.p.fr.length f, .slice B x.spans.length d, .int .i64 x.space] ∧ x.p.fr.length ≤ f ∧ kR.C w F x.p.fr.length x.p.fr ∧ x.spans.length ≤ d ∧ kQ.C w B x.spans.length x.spans := by
  obtain ⟨_, _, rfl, rfl, ⟨_, _, rfl, rfl, ⟨_, _, rfl, rfl, ⟨_, _, rfl, rfl, ⟨_, _, rfl, rfl, ⟨_, _, rfl, rfl, ⟨cp, _, rfl, hp, ⟨_, _, rfl, ⟨B, d, rfl, ld, gd⟩, rfl⟩⟩⟩⟩⟩⟩⟩⟩ := h
  obtain ⟨F, f, rfl, lf, gf⟩ := kP_open hp
  exact ⟨F, f, B, d, rfl, lf, gf, ld, gd⟩
theorem opensA : Opens kA BA Try.prog 57 := by
  have hu : Try.prog.underlying 57 = some (.struct _) := Try.underlying57
  have h8 := opens_int Try.underlying5
  have h16 := opens_int Try.underlying55
  have h := opens_struct hu (n := 1 + (1 + (1 + (1 + (1 + (1 + (5 + (1 + 1)))))))) (by kernel_rfl)
    (fields_cons (off := 0) rfl (by kernel_rfl) rfl h8 (fields_cons rfl (by kernel_rfl) rfl h8 (fields_cons rfl (by kernel_rfl) rfl h8 (fields_cons rfl (by kernel_rfl) rfl h16 (fields_cons rfl (by kernel_rfl) rfl h16
      (fields_cons rfl (by kernel_rfl) rfl (opens_bool Try.underlying4) (fields_cons rfl (by kernel_rfl) rfl opensP (fields_cons rfl (by kernel_rfl) rfl OpenL.opensSpans (fields_one rfl (by kernel_rfl) rfl (opens_int Try.underlying3))))))))))
  exact opens_iso A.tup (fun x => ⟨x.1, x.2.1, x.2.2.1, x.2.2.2.1, x.2.2.2.2.1, x.2.2.2.2.2.1, x.2.2.2.2.2.2.1, x.2.2.2.2.2.2.2.1, x.2.2.2.2.2.2.2.2⟩) (fun _ => rfl) h
theorem opensActs : Opens (Kd.slice 57 kA) (fun l => l.length ≤ 9223372036854775807 ∧ ∀ x ∈ l, BA x) Try.prog 50 :=
  opens_slice Try.underlying50 (by kernel_rfl) opensA
end Go.Proofs.Ytgdboikoejodpaa.PlaysP

namespace Go.Proofs.Ytgdboikoejodpaa.PlaysQ
open Go Go.RowKit Go.Proofs.YtgdboikoejodpaaW.PrintWords Go.Proofs.YtgdboikoejodpaaW.PrintLast Go.Proofs.YtgdboikoejodpaaW.PrintMore Go.Proofs.Ytgdboikoejodpaa.Keep Go.Proofs.Ytgdboikoejodpaa.Led Go.Proofs.Ytgdboikoejodpaa.Rate Go.Proofs.Ytgdboikoejodpaa.Rd Go.Proofs.Ytgdboikoejodpaa.Timer Go.Proofs.Ytgdboikoejodpaa.LedSp Go.Proofs.Ytgdboikoejodpaa.Drop Go.Proofs.Ytgdboikoejodpaa.In Go.Proofs.Ytgdboikoejodpaa.Split Go.Proofs.Ytgdboikoejodpaa.GoneP Go.Proofs.Ytgdboikoejodpaa.Gone Go.Proofs.Ytgdboikoejodpaa.AckP Go.Proofs.Ytgdboikoejodpaa.Ack Go.Proofs.Ytgdboikoejodpaa.Clone Go.Proofs.Ytgdboikoejodpaa.Sent Go.Proofs.Ytgdboikoejodpaa.Inv Go.Proofs.Ytgdboikoejodpaa.Fire Go.Proofs.Ytgdboikoejodpaa.Law Go.Proofs.Ytgdboikoejodpaa.Ref Go.Proofs.Ytgdboikoejodpaa.RefB Go.Proofs.Ytgdboikoejodpaa.RefLost Go.Proofs.Ytgdboikoejodpaa.RefSent Go.Proofs.Ytgdboikoejodpaa.RefAck Go.Proofs.Ytgdboikoejodpaa.RefFire Go.Proofs.Ytgdboikoejodpaa.Opens Go.Proofs.Ytgdboikoejodpaa.OpenL Go.Proofs.Ytgdboikoejodpaa.PlaysP
set_option linter.unusedVariables false

def dropX (s : Int) (L : Lg) : Lg := if s < 0 ∨ 3 ≤ s then L else dropL s.toNat L
theorem of_in {s : Int} (h : ¬ (s < 0 ∨ 3 ≤ s)) : ((s.toNat : Nat) : Int) = s ∧ s.toNat < 3 := by omega
theorem p_drop {w0 w : World} {p q n : Nat} {Lp Lr : Lg} {v u : Nat → Value} (h : PL w0 w p q n Lp Lr v u) (s : Int) :
    Calls Try.prog 17 #[.pointer (some ⟨p, 0, none⟩), .int .i64 s] w fun e w' => e = .returned (.tuple #[]) ∧ ∃ v', PL w0 w' p q n (dropX s Lp) Lr v' u := by
  by_cases ho : s < 0 ∨ 3 ≤ s
  · refine (drop_out p s ho).mono ?_
    rintro e w' ⟨rfl, rfl⟩
    exact ⟨rfl, v, by unfold dropX; rw [if_pos ho]; exact h⟩
  · obtain ⟨e1, e2⟩ := of_in ho
    have hd := drop_calls h.lw.led h.lw.inv.b s.toNat e2 (h.lw.inv.fl s.toNat e2)
    rw [e1] at hd
    refine hd.mono ?_
    rintro e w' ⟨rfl, h1, h2⟩
    refine ⟨rfl, setV v s.toNat (.slice none 0 0), ?_⟩
    unfold dropX
    rw [if_neg ho]
    refine h.prog e2 ⟨h1, dropN h.lw.inv s.toNat e2, h2.below h.lw.below h.lw.below.size h.lw.led.hp⟩ (KL.of_kp' h2) (fun i b hi e => ?_)
    by_cases hij : i = s.toNat
    · subst hij; rw [setV_same] at e; cases e
    · rw [setV_other _ _ _ _ hij] at e; exact .inl e
theorem r_drop {w0 w : World} {p q n : Nat} {Lp Lr : Lg} {v u : Nat → Value} (h : PL w0 w p q n Lp Lr v u) (s : Int) :
    Calls Try.prog 26 #[.pointer (some ⟨q, 0, none⟩), .int .i64 s] w fun e w' => e = .returned (.tuple #[]) ∧ ∃ u', PL w0 w' p q n Lp (dropX s Lr) v u' := by
  by_cases ho : s < 0 ∨ 3 ≤ s
  · refine (rdrop_out q s ho).mono ?_
    rintro e w' ⟨rfl, rfl⟩
    exact ⟨rfl, u, by unfold dropX; rw [if_pos ho]; exact h⟩
  · obtain ⟨e1, e2⟩ := of_in ho
    have hd := rdrop_calls h.rl s.toNat e2
    rw [e1] at hd
    refine hd.mono ?_
    rintro e w' ⟨rfl, h1, h2⟩
    refine ⟨rfl, setV u s.toNat (.slice none 0 0), ?_⟩
    unfold dropX
    rw [if_neg ho]
    refine h.ref h1 h2 (fun i b hi e => ?_)
    by_cases hij : i = s.toNat
    · subst hij; rw [setV_same] at e; cases e
    · rw [setV_other _ _ _ _ hij] at e; exact .inl e

/-- Ack, in range or not. -/
def ackX (s : Int) (l : List Q) (now : Int) (L : Lg) : List S × List S × Int × Lg := if s < 0 ∨ 3 ≤ s ∨ 1099511627776 < now then ([], [], 2, L) else ackL s.toNat l now L
theorem p_ack {w0 w : World} {p q n : Nat} {Lp Lr : Lg} {v u : Nat → Value} (h : PL w0 w p q n Lp Lr v u) (hnn : n ≤ 500000) (s now : Int) (hn : 0 ≤ now) (B : Option Addr) (d : Nat) (l : List Q) (hC : Kd.C kQ w B l.length l) (hq : ∀ x ∈ l, pq x) (hl : l.length ≤ 1000000) (hBp : ∀ a, B = some a → 0 < l.length → a.block ≠ p) :
    Calls Try.prog 13 #[.pointer (some ⟨p, 0, none⟩), .int .i64 s, .slice B l.length d, .int .u64 now] w fun e w' => ∃ va vl v', e = .returned (.tuple #[va, vl, .int .i64 (ackX s l now Lp).2.2.1]) ∧ PL w0 w' p q (n + 1) (ackX s l now Lp).2.2.2 Lr v' u ∧ RS w' w.heap.size va (ackX s l now Lp).1 ∧ RS w' w.heap.size vl (ackX s l now Lp).2.1 ∧ Kp p w w' := by
  by_cases ho : s < 0 ∨ 3 ≤ s ∨ 1099511627776 < now
  · refine (ack_out p s now B l.length d ho).mono ?_
    rintro e w' ⟨rfl, hb⟩
    unfold ackX
    rw [if_pos ho]
    exact ⟨_, _, v, rfl, (h.go hb).mono (by omega), Kd.R_nil _ _ _ _ _, Kd.R_nil _ _ _ _ _, Kp.of_below hb⟩
  · obtain ⟨e1, e2⟩ := of_in (s := s) (by omega)
    have hd := ack_calls h.lw.led h.lw.inv.b s.toNat e2 (h.lw.inv.fl s.toNat e2) (h.lw.inv.wi hnn) now ⟨hn, by omega⟩ B d l hC hq hl hBp
    rw [e1] at hd
    refine hd.mono ?_
    rintro e w' ⟨va, vl, v', rfl, h1, h2, h3, h4, h5⟩
    unfold ackX
    rw [if_neg ho]
    exact ⟨va, vl, v', rfl, h.prog e2 ⟨h1, ackN h.lw.inv hnn s.toNat e2 l hq now ⟨hn, by omega⟩, h5.below h.lw.below h.lw.below.size h.lw.led.hp⟩ (KL.of_kp' h5) h4, h2, h3, h5⟩
theorem r_ack {w0 w : World} {p q n m : Nat} {Lp Lr : Lg} {v u : Nat → Value} (h : PL w0 w p q n Lp Lr v u) (hN : LgN m Lr) (hnn : m ≤ 500000) (s now : Int) (hn : 0 ≤ now) (B : Option Addr) (d : Nat) (l : List Q) (hC : Kd.C kQ w B l.length l) (hq : ∀ x ∈ l, pq x) (hl : l.length ≤ 1000000) (hBp : ∀ a, B = some a → 0 < l.length → a.block ≠ q) :
    Calls Try.prog 22 #[.pointer (some ⟨q, 0, none⟩), .int .i64 s, .slice B l.length d, .int .u64 now] w fun e w' => ∃ va vl u', e = .returned (.tuple #[va, vl, .int .i64 (ackX s l now Lr).2.2.1]) ∧ PL w0 w' p q n Lp (ackX s l now Lr).2.2.2 v u' ∧ RE w' w.heap.size va (ackX s l now Lr).1 ∧ RE w' w.heap.size vl (ackX s l now Lr).2.1 ∧ Kp q w w' := by
  by_cases ho : s < 0 ∨ 3 ≤ s ∨ 1099511627776 < now
  · refine (rack_out q s now B l.length d ho).mono ?_
    rintro e w' ⟨rfl, rfl⟩
    unfold ackX
    rw [if_pos ho]
    exact ⟨_, _, u, rfl, h, Kd.R_nil _ _ _ _ _, Kd.R_nil _ _ _ _ _, Kp.refl q w⟩
  · obtain ⟨e1, e2⟩ := of_in (s := s) (by omega)
    have hd := rack_calls h.rl hN hnn s.toNat e2 now ⟨hn, by omega⟩ B d l hC hq hl hBp
    rw [e1] at hd
    refine hd.mono ?_
    rintro e w' ⟨va, vl, u', rfl, h1, h2, h3, h4, h5⟩
    unfold ackX
    rw [if_neg ho]
    exact ⟨va, vl, u', rfl, h.ref h1 h5 h4, h2, h3, h5⟩
theorem p_fire {w0 w : World} {p q n : Nat} {Lp Lr : Lg} {v u : Nat → Value} (h : PL w0 w p q n Lp Lr v u) (hnn : n ≤ 500000) (now : Int) (hn : 0 ≤ now ∧ now < 18446744073709551616) :
    Calls Try.prog 19 #[.pointer (some ⟨p, 0, none⟩), .int .u64 now] w fun e w' => ∃ o v' : Nat → Value, e = .returned (.tuple #[.agg #[o 0, o 1, o 2], .bool (fireL now Lp).2.2]) ∧ PL w0 w' p q (n + 1) (fireL now Lp).1 Lr v' u ∧ (∀ j, j < 3 → RS w' w.heap.size (o j) ((fireL now Lp).2.1 j)) ∧ Kp p w w' := by
  refine (fire_calls h.lw.led h.lw.inv hnn now hn).mono ?_
  rintro e w' ⟨o, v', rfl, hf⟩
  refine ⟨o, v', rfl, h.prog (i := 0) (by omega) ⟨hf.led, fireN h.lw.inv hnn now hn.1, hf.kp.below h.lw.below h.lw.below.size h.lw.led.hp⟩ (KL.of_kp' hf.kp) (fun i b hi e => ?_), fun j hj => Kd.R_lower (hf.rows j hj) (by omega), hf.kp⟩
  rcases hf.vown i b hi e with h1 | h1
  · exact .inl h1
  · exact .inr (by omega)
theorem r_fire {w0 w : World} {p q n m : Nat} {Lp Lr : Lg} {v u : Nat → Value} (h : PL w0 w p q n Lp Lr v u) (hN : LgN m Lr) (hnn : m ≤ 500000) (now : Int) (hn : 0 ≤ now ∧ now < 18446744073709551616) :
    Calls Try.prog 25 #[.pointer (some ⟨q, 0, none⟩), .int .u64 now] w fun e w' => ∃ o u' : Nat → Value, e = .returned (.tuple #[.agg #[o 0, o 1, o 2], .bool (fireL now Lr).2.2]) ∧ PL w0 w' p q n Lp (fireL now Lr).1 v u' ∧ (∀ j, j < 3 → RE w' w.heap.size (o j) ((fireL now Lr).2.1 j)) ∧ Kp q w w' := by
  refine (rfire_calls h.rl hN hnn now hn).mono ?_
  rintro e w' ⟨o, u', rfl, h1, h2, h3, h4⟩
  exact ⟨o, u', rfl, h.ref h1 h4 h3, h2, h4⟩
end Go.Proofs.Ytgdboikoejodpaa.PlaysQ

namespace Go.Proofs.Ytgdboikoejodpaa.PlaysW
open Go Go.RowKit Go.Proofs.YtgdboikoejodpaaW.PrintWords Go.Proofs.YtgdboikoejodpaaW.PrintLast Go.Proofs.YtgdboikoejodpaaW.PrintMore Go.Proofs.Ytgdboikoejodpaa.Keep Go.Proofs.Ytgdboikoejodpaa.Led Go.Proofs.Ytgdboikoejodpaa.Rate Go.Proofs.Ytgdboikoejodpaa.Rd Go.Proofs.Ytgdboikoejodpaa.Timer Go.Proofs.Ytgdboikoejodpaa.LedSp Go.Proofs.Ytgdboikoejodpaa.Drop Go.Proofs.Ytgdboikoejodpaa.In Go.Proofs.Ytgdboikoejodpaa.Split Go.Proofs.Ytgdboikoejodpaa.GoneP Go.Proofs.Ytgdboikoejodpaa.Gone Go.Proofs.Ytgdboikoejodpaa.AckP Go.Proofs.Ytgdboikoejodpaa.Ack Go.Proofs.Ytgdboikoejodpaa.Clone Go.Proofs.Ytgdboikoejodpaa.Sent Go.Proofs.Ytgdboikoejodpaa.Inv Go.Proofs.Ytgdboikoejodpaa.Fire Go.Proofs.Ytgdboikoejodpaa.Law Go.Proofs.Ytgdboikoejodpaa.Ref Go.Proofs.Ytgdboikoejodpaa.RefB Go.Proofs.Ytgdboikoejodpaa.RefLost Go.Proofs.Ytgdboikoejodpaa.RefSent Go.Proofs.Ytgdboikoejodpaa.RefAck Go.Proofs.Ytgdboikoejodpaa.RefFire Go.Proofs.Ytgdboikoejodpaa.OpenL Go.Proofs.Ytgdboikoejodpaa.PlaysP
set_option linter.unusedVariables false

/-- The loops of a code, in order. -/
def loops : Code → List Code
  | .loop c => [c]
  | .seq a b => loops a ++ loops b
  | .block _ c => loops c
  | .scope c => loops c
  | .cond _ a b => loops a ++ loops b
  | _ => []
noncomputable def body : Code := ((Try.f8.body.map loops).getD []).getD 0 .skip
/-- What holds at the head of a round. -/
structure Rel (w : World) (B : Option Addr) (c : Nat) (l : List A) (p q : Nat) (k : Nat) (now : Int) (wr : World) (n : Nat) (L : Lg) (v v' : Nat → Value) : Prop where
  k1 : k ≤ l.length
  k2 : k ≤ 101
  nk : n ≤ k
  w0 : 1 ≤ now
  w1 : now ≤ 5764608622749902080 + 200 * (k : Int)
  pl : PL w wr p q n L L v v'
set_option maxRecDepth 1000000 in
/-- A frame of 437 slots, laid out. -/
theorem laid (a : Act) (hs : a.tmps.size = 437) (hd : a.defers = []) : ∃ u : Nat → Value, a = ⟨#[u 0, u 1, u 2, u 3, u 4, u 5, u 6, u 7, u 8, u 9, u 10, u 11, u 12, u 13, u 14, u 15, u 16, u 17, u 18, u 19, u 20, u 21, u 22, u 23, u 24, u 25, u 26, u 27, u 28, u 29, u 30, u 31, u 32, u 33, u 34, u 35, u 36, u 37, u 38, u 39, u 40, u 41, u 42, u 43, u 44, u 45, u 46, u 47, u 48, u 49, u 50, u 51, u 52, u 53, u 54, u 55, u 56, u 57, u 58, u 59, u 60, u 61, u 62, u 63, u 64, u 65, u 66, u 67, u 68, u 69, u 70, u 71, u 72, u 73, u 74, u 75, u 76, u 77, u 78, u 79, u 80, u 81, u 82, u 83, u 84, u 85, u 86, u 87, u 88, u 89, u 90, u 91, u 92, u 93, u 94, u 95, u 96, u 97, u 98, u 99, u 100, u 101, u 102, u 103, u 104, u 105, u 106, u 107, u 108, u 109, u 110, u 111, u 112, u 113, u 114, u 115, u 116, u 117, u 118, u 119, u 120, u 121, u 122, u 123, u 124, u 125, u 126, u 127, u 128, u 129, u 130, u 131, u 132, u 133, u 134, u 135, u 136, u 137, u 138, u 139, u 140, u 141, u 142, u 143, u 144, u 145, u 146, u 147, u 148, u 149, u 150, u 151, u 152, u 153, u 154, u 155, u 156, u 157, u 158, u 159, u 160, u 161, u 162, u 163, u 164, u 165, u 166, u 167, u 168, u 169, u 170, u 171, u 172, u 173, u 174, u 175, u 176, u 177, u 178, u 179, u 180, u 181, u 182, u 183, u 184, u 185, u 186, u 187, u 188, u 189, u 190, u 191, u 192, u 193, u 194, u 195, u 196, u 197, u 198, u 199, u 200, u 201, u 202, u 203, u 204, u 205, u 206, u 207, u 208, u 209, u 210, u 211, u 212, u 213, u 214, u 215, u 216, u 217, u 218, u 219, u 220, u 221, u 222, u 223, u 224, u 225, u 226, u 227, u 228, u 229, u 230, u 231, u 232, u 233, u 234, u 235, u 236, u 237, u 238, u 239, u 240, u 241, u 242, u 243, u 244, u 245, u 246, u 247, u 248, u 249, u 250, u 251, u 252, u 253, u 254, u 255, u 256, u 257, u 258, u 259, u 260, u 261, u 262, u 263, u 264, u 265, u 266, u 267, u 268, u 269, u 270, u 271, u 272, u 273, u 274, u 275, u 276, u 277, u 278, u 279, u 280, u 281, u 282, u 283, u 284, u 285, u 286, u 287, u 288, u 289, u 290, u 291, u 292, u 293, u 294, u 295, u 296, u 297, u 298, u 299, u 300, u 301, u 302, u 303, u 304, u 305, u 306, u 307, u 308, u 309, u 310, u 311, u 312, u 313, u 314, u 315, u 316, u 317, u 318, u 319, u 320, u 321, u 322, u 323, u 324, u 325, u 326, u 327, u 328, u 329, u 330, u 331, u 332, u 333, u 334, u 335, u 336, u 337, u 338, u 339, u 340, u 341, u 342, u 343, u 344, u 345, u 346, u 347, u 348, u 349, u 350, u 351, u 352, u 353, u 354, u 355, u 356, u 357, u 358, u 359, u 360, u 361, u 362, u 363, u 364, u 365, u 366, u 367, u 368, u 369, u 370, u 371, u 372, u 373, u 374, u 375, u 376, u 377, u 378, u 379, u 380, u 381, u 382, u 383, u 384, u 385, u 386, u 387, u 388, u 389, u 390, u 391, u 392, u 393, u 394, u 395, u 396, u 397, u 398, u 399, u 400, u 401, u 402, u 403, u 404, u 405, u 406, u 407, u 408, u 409, u 410, u 411, u 412, u 413, u 414, u 415, u 416, u 417, u 418, u 419, u 420, u 421, u 422, u 423, u 424, u 425, u 426, u 427, u 428, u 429, u 430, u 431, u 432, u 433, u 434, u 435, u 436], []⟩ ∧ ∀ j, u j = a.tmps.getD j undef := by
  refine ⟨fun j => a.tmps.getD j undef, ?_, fun _ => rfl⟩
  obtain ⟨t, d⟩ := a
  have hd : d = [] := hd
  subst hd
  have e : t = ((List.range 437).map fun j => t.getD j undef).toArray := by
    apply Array.ext
    · have : t.size = 437 := hs
      simp [this]
    · intro j h1 h2
      simp [Array.getD_eq_getD_getElem?, Array.getElem?_eq_getElem h1]
  have e2 : ((List.range 437).map fun j => t.getD j undef) = [t.getD 0 undef, t.getD 1 undef, t.getD 2 undef, t.getD 3 undef, t.getD 4 undef, t.getD 5 undef, t.getD 6 undef, t.getD 7 undef, t.getD 8 undef, t.getD 9 undef, t.getD 10 undef, t.getD 11 undef, t.getD 12 undef, t.getD 13 undef, t.getD 14 undef, t.getD 15 undef, t.getD 16 undef, t.getD 17 undef, t.getD 18 undef, t.getD 19 undef, t.getD 20 undef, t.getD 21 undef, t.getD 22 undef, t.getD 23 undef, t.getD 24 undef, t.getD 25 undef, t.getD 26 undef, t.getD 27 undef, t.getD 28 undef, t.getD 29 undef, t.getD 30 undef, t.getD 31 undef, t.getD 32 undef, t.getD 33 undef, t.getD 34 undef, t.getD 35 undef, t.getD 36 undef, t.getD 37 undef, t.getD 38 undef, t.getD 39 undef, t.getD 40 undef, t.getD 41 undef, t.getD 42 undef, t.getD 43 undef, t.getD 44 undef, t.getD 45 undef, t.getD 46 undef, t.getD 47 undef, t.getD 48 undef, t.getD 49 undef, t.getD 50 undef, t.getD 51 undef, t.getD 52 undef, t.getD 53 undef, t.getD 54 undef, t.getD 55 undef, t.getD 56 undef, t.getD 57 undef, t.getD 58 undef, t.getD 59 undef, t.getD 60 undef, t.getD 61 undef, t.getD 62 undef, t.getD 63 undef, t.getD 64 undef, t.getD 65 undef, t.getD 66 undef, t.getD 67 undef, t.getD 68 undef, t.getD 69 undef, t.getD 70 undef, t.getD 71 undef, t.getD 72 undef, t.getD 73 undef, t.getD 74 undef, t.getD 75 undef, t.getD 76 undef, t.getD 77 undef, t.getD 78 undef, t.getD 79 undef, t.getD 80 undef, t.getD 81 undef, t.getD 82 undef, t.getD 83 undef, t.getD 84 undef, t.getD 85 undef, t.getD 86 undef, t.getD 87 undef, t.getD 88 undef, t.getD 89 undef, t.getD 90 undef, t.getD 91 undef, t.getD 92 undef, t.getD 93 undef, t.getD 94 undef, t.getD 95 undef, t.getD 96 undef, t.getD 97 undef, t.getD 98 undef, t.getD 99 undef, t.getD 100 undef, t.getD 101 undef, t.getD 102 undef, t.getD 103 undef, t.getD 104 undef, t.getD 105 undef, t.getD 106 undef, t.getD 107 undef, t.getD 108 undef, t.getD 109 undef, t.getD 110 undef, t.getD 111 undef, t.getD 112 undef, t.getD 113 undef, t.getD 114 undef, t.getD 115 undef, t.getD 116 undef, t.getD 117 undef, t.getD 118 undef, t.getD 119 undef, t.getD 120 undef, t.getD 121 undef, t.getD 122 undef, t.getD 123 undef, t.getD 124 undef, t.getD 125 undef, t.getD 126 undef, t.getD 127 undef, t.getD 128 undef, t.getD 129 undef, t.getD 130 undef, t.getD 131 undef, t.getD 132 undef, t.getD 133 undef, t.getD 134 undef, t.getD 135 undef, t.getD 136 undef, t.getD 137 undef, t.getD 138 undef, t.getD 139 undef, t.getD 140 undef, t.getD 141 undef, t.getD 142 undef, t.getD 143 undef, t.getD 144 undef, t.getD 145 undef, t.getD 146 undef, t.getD 147 undef, t.getD 148 undef, t.getD 149 undef, t.getD 150 undef, t.getD 151 undef, t.getD 152 undef, t.getD 153 undef, t.getD 154 undef, t.getD 155 undef, t.getD 156 undef, t.getD 157 undef, t.getD 158 undef, t.getD 159 undef, t.getD 160 undef, t.getD 161 undef, t.getD 162 undef, t.getD 163 undef, t.getD 164 undef, t.getD 165 undef, t.getD 166 undef, t.getD 167 undef, t.getD 168 undef, t.getD 169 undef, t.getD 170 undef, t.getD 171 undef, t.getD 172 undef, t.getD 173 undef, t.getD 174 undef, t.getD 175 undef, t.getD 176 undef, t.getD 177 undef, t.getD 178 undef, t.getD 179 undef, t.getD 180 undef, t.getD 181 undef, t.getD 182 undef, t.getD 183 undef, t.getD 184 undef, t.getD 185 undef, t.getD 186 undef, t.getD 187 undef, t.getD 188 undef, t.getD 189 undef, t.getD 190 undef, t.getD 191 undef, t.getD 192 undef, t.getD 193 undef, t.getD 194 undef, t.getD 195 undef, t.getD 196 undef, t.getD 197 undef, t.getD 198 undef, t.getD 199 undef, t.getD 200 undef, t.getD 201 undef, t.getD 202 undef, t.getD 203 undef, t.getD 204 undef, t.getD 205 undef, t.getD 206 undef, t.getD 207 undef, t.getD 208 undef, t.getD 209 undef, t.getD 210 undef, t.getD 211 undef, t.getD 212 undef, t.getD 213 undef, t.getD 214 undef, t.getD 215 undef, t.getD 216 undef, t.getD 217 undef, t.getD 218 undef, t.getD 219 undef, t.getD 220 undef, t.getD 221 undef, t.getD 222 undef, t.getD 223 undef, t.getD 224 undef, t.getD 225 undef, t.getD 226 undef, t.getD 227 undef, t.getD 228 undef, t.getD 229 undef, t.getD 230 undef, t.getD 231 undef, t.getD 232 undef, t.getD 233 undef, t.getD 234 undef, t.getD 235 undef, t.getD 236 undef, t.getD 237 undef, t.getD 238 undef, t.getD 239 undef, t.getD 240 undef, t.getD 241 undef, t.getD 242 undef, t.getD 243 undef, t.getD 244 undef, t.getD 245 undef, t.getD 246 undef, t.getD 247 undef, t.getD 248 undef, t.getD 249 undef, t.getD 250 undef, t.getD 251 undef, t.getD 252 undef, t.getD 253 undef, t.getD 254 undef, t.getD 255 undef, t.getD 256 undef, t.getD 257 undef, t.getD 258 undef, t.getD 259 undef, t.getD 260 undef, t.getD 261 undef, t.getD 262 undef, t.getD 263 undef, t.getD 264 undef, t.getD 265 undef, t.getD 266 undef, t.getD 267 undef, t.getD 268 undef, t.getD 269 undef, t.getD 270 undef, t.getD 271 undef, t.getD 272 undef, t.getD 273 undef, t.getD 274 undef, t.getD 275 undef, t.getD 276 undef, t.getD 277 undef, t.getD 278 undef, t.getD 279 undef, t.getD 280 undef, t.getD 281 undef, t.getD 282 undef, t.getD 283 undef, t.getD 284 undef, t.getD 285 undef, t.getD 286 undef, t.getD 287 undef, t.getD 288 undef, t.getD 289 undef, t.getD 290 undef, t.getD 291 undef, t.getD 292 undef, t.getD 293 undef, t.getD 294 undef, t.getD 295 undef, t.getD 296 undef, t.getD 297 undef, t.getD 298 undef, t.getD 299 undef, t.getD 300 undef, t.getD 301 undef, t.getD 302 undef, t.getD 303 undef, t.getD 304 undef, t.getD 305 undef, t.getD 306 undef, t.getD 307 undef, t.getD 308 undef, t.getD 309 undef, t.getD 310 undef, t.getD 311 undef, t.getD 312 undef, t.getD 313 undef, t.getD 314 undef, t.getD 315 undef, t.getD 316 undef, t.getD 317 undef, t.getD 318 undef, t.getD 319 undef, t.getD 320 undef, t.getD 321 undef, t.getD 322 undef, t.getD 323 undef, t.getD 324 undef, t.getD 325 undef, t.getD 326 undef, t.getD 327 undef, t.getD 328 undef, t.getD 329 undef, t.getD 330 undef, t.getD 331 undef, t.getD 332 undef, t.getD 333 undef, t.getD 334 undef, t.getD 335 undef, t.getD 336 undef, t.getD 337 undef, t.getD 338 undef, t.getD 339 undef, t.getD 340 undef, t.getD 341 undef, t.getD 342 undef, t.getD 343 undef, t.getD 344 undef, t.getD 345 undef, t.getD 346 undef, t.getD 347 undef, t.getD 348 undef, t.getD 349 undef, t.getD 350 undef, t.getD 351 undef, t.getD 352 undef, t.getD 353 undef, t.getD 354 undef, t.getD 355 undef, t.getD 356 undef, t.getD 357 undef, t.getD 358 undef, t.getD 359 undef, t.getD 360 undef, t.getD 361 undef, t.getD 362 undef, t.getD 363 undef, t.getD 364 undef, t.getD 365 undef, t.getD 366 undef, t.getD 367 undef, t.getD 368 undef, t.getD 369 undef, t.getD 370 undef, t.getD 371 undef, t.getD 372 undef, t.getD 373 undef, t.getD 374 undef, t.getD 375 undef, t.getD 376 undef, t.getD 377 undef, t.getD 378 undef, t.getD 379 undef, t.getD 380 undef, t.getD 381 undef, t.getD 382 undef, t.getD 383 undef, t.getD 384 undef, t.getD 385 undef, t.getD 386 undef, t.getD 387 undef, t.getD 388 undef, t.getD 389 undef, t.getD 390 undef, t.getD 391 undef, t.getD 392 undef, t.getD 393 undef, t.getD 394 undef, t.getD 395 undef, t.getD 396 undef, t.getD 397 undef, t.getD 398 undef, t.getD 399 undef, t.getD 400 undef, t.getD 401 undef, t.getD 402 undef, t.getD 403 undef, t.getD 404 undef, t.getD 405 undef, t.getD 406 undef, t.getD 407 undef, t.getD 408 undef, t.getD 409 undef, t.getD 410 undef, t.getD 411 undef, t.getD 412 undef, t.getD 413 undef, t.getD 414 undef, t.getD 415 undef, t.getD 416 undef, t.getD 417 undef, t.getD 418 undef, t.getD 419 undef, t.getD 420 undef, t.getD 421 undef, t.getD 422 undef, t.getD 423 undef, t.getD 424 undef, t.getD 425 undef, t.getD 426 undef, t.getD 427 undef, t.getD 428 undef, t.getD 429 undef, t.getD 430 undef, t.getD 431 undef, t.getD 432 undef, t.getD 433 undef, t.getD 434 undef, t.getD 435 undef, t.getD 436 undef] := by kernel_rfl
  rw [e2] at e
  exact congrArg (fun t => (⟨t, []⟩ : Act)) e
structure WI (w : World) (B : Option Addr) (c : Nat) (l : List A) (p q : Nat) (a : Act) (wr : World) : Prop where
  size : a.tmps.size = 437
  defs : a.defers = []
  rel : ∃ (k : Nat) (now : Int) (n : Nat) (L : Lg) (v v' : Nat → Value), Rel w B c l p q k now wr n L v v' ∧ a.tmps.getD 0 undef = .slice B l.length c ∧ a.tmps.getD 3 undef = .pointer (some ⟨p, 0, none⟩) ∧ a.tmps.getD 4 undef = .pointer (some ⟨q, 0, none⟩) ∧ a.tmps.getD 5 undef = .int .u64 now ∧ a.tmps.getD 46 undef = .slice B l.length c ∧ a.tmps.getD 47 undef = .int .i64 (l.length : Int) ∧ a.tmps.getD 48 undef = .int .i64 (k : Int)
def Wmu (l : List A) (a : Act) (wr : World) : Nat := l.length - (intOf (a.tmps.getD 48 undef)).toNat
end Go.Proofs.Ytgdboikoejodpaa.PlaysW

namespace Go.Proofs.Ytgdboikoejodpaa.Plays0
open Go Go.RowKit Go.Proofs.YtgdboikoejodpaaW.PrintWords Go.Proofs.YtgdboikoejodpaaW.PrintLast Go.Proofs.YtgdboikoejodpaaW.PrintMore Go.Proofs.Ytgdboikoejodpaa.Keep Go.Proofs.Ytgdboikoejodpaa.Led Go.Proofs.Ytgdboikoejodpaa.Rate Go.Proofs.Ytgdboikoejodpaa.Rd Go.Proofs.Ytgdboikoejodpaa.Timer Go.Proofs.Ytgdboikoejodpaa.LedSp Go.Proofs.Ytgdboikoejodpaa.Drop Go.Proofs.Ytgdboikoejodpaa.In Go.Proofs.Ytgdboikoejodpaa.Split Go.Proofs.Ytgdboikoejodpaa.GoneP Go.Proofs.Ytgdboikoejodpaa.Gone Go.Proofs.Ytgdboikoejodpaa.AckP Go.Proofs.Ytgdboikoejodpaa.Ack Go.Proofs.Ytgdboikoejodpaa.Clone Go.Proofs.Ytgdboikoejodpaa.Sent Go.Proofs.Ytgdboikoejodpaa.Inv Go.Proofs.Ytgdboikoejodpaa.Fire Go.Proofs.Ytgdboikoejodpaa.Law Go.Proofs.Ytgdboikoejodpaa.Ref Go.Proofs.Ytgdboikoejodpaa.RefB Go.Proofs.Ytgdboikoejodpaa.RefLost Go.Proofs.Ytgdboikoejodpaa.RefSent Go.Proofs.Ytgdboikoejodpaa.RefAck Go.Proofs.Ytgdboikoejodpaa.RefFire Go.Proofs.Ytgdboikoejodpaa.OpenL Go.Proofs.Ytgdboikoejodpaa.PlaysP Go.Proofs.Ytgdboikoejodpaa.PlaysW
set_option linter.unusedVariables false
def zA : A := ⟨0, 0, 0, 0, 0, false, ⟨0, 0, 0, false, []⟩, [], 0⟩
/-- An act's box. -/
abbrev aO (x : A) (F : Option Addr) (f : Nat) (B : Option Addr) (d : Nat) : Obj := .cells #[.int .u8 x.kind, .int .u8 x.in_, .int .u8 x.n, .int .u16 x.wait, .int .u16 x.size, .bool x.asks, .int .u64 x.p.pn, .int .u64 x.p.time, .int .u64 x.p.size, .bool x.p.asks, .slice F x.p.fr.length f, .slice B x.spans.length d, .int .i64 x.space] 57 (0, 0)
theorem AC_get {w : World} {C : Option Addr} {n : Nat} {xs : List A} (h : Kd.C kA w C n xs) (k : Nat) (hk : k < n) : ∃ ad F f B d, C = some ad ∧ (w.cell? (ad.add (k * 13)) = some (.int .u8 (xs.getD k zA).kind) ∧ w.cell? ⟨(ad.add (k * 13)).block, (ad.add (k * 13)).off + 1, none⟩ = some (.int .u8 (xs.getD k zA).in_) ∧ w.cell? ⟨(ad.add (k * 13)).block, (ad.add (k * 13)).off + 2, none⟩ = some (.int .u8 (xs.getD k zA).n) ∧ w.cell? ⟨(ad.add (k * 13)).block, (ad.add (k * 13)).off + 3, none⟩ = some (.int .u16 (xs.getD k zA).wait) ∧ w.cell? ⟨(ad.add (k * 13)).block, (ad.add (k * 13)).off + 4, none⟩ = some (.int .u16 (xs.getD k zA).size) ∧ w.cell? ⟨(ad.add (k * 13)).block, (ad.add (k * 13)).off + 5, none⟩ = some (.bool (xs.getD k zA).asks)) ∧ (w.cell? ⟨(ad.add (k * 13)).block, (ad.add (k * 13)).off + 6, none⟩ = some (.int .u64 (xs.getD k zA).p.pn) ∧ w.cell? ⟨(ad.add (k * 13)).block, (ad.add (k * 13)).off + 7, none⟩ = some (.int .u64 (xs.getD k zA).p.time) ∧ w.cell? ⟨(ad.add (k * 13)).block, (ad.add (k * 13)).off + 8, none⟩ = some (.int .u64 (xs.getD k zA).p.size) ∧ w.cell? ⟨(ad.add (k * 13)).block, (ad.add (k * 13)).off + 9, none⟩ = some (.bool (xs.getD k zA).p.asks) ∧ w.cell? ⟨(ad.add (k * 13)).block, (ad.add (k * 13)).off + 10, none⟩ = some (.slice F (xs.getD k zA).p.fr.length f)) ∧ (w.cell? ⟨(ad.add (k * 13)).block, (ad.add (k * 13)).off + 11, none⟩ = some (.slice B (xs.getD k zA).spans.length d) ∧ w.cell? ⟨(ad.add (k * 13)).block, (ad.add (k * 13)).off + 12, none⟩ = some (.int .i64 (xs.getD k zA).space)) ∧ Kd.C kR w F (xs.getD k zA).p.fr.length (xs.getD k zA).p.fr ∧ Kd.C kQ w B (xs.getD k zA).spans.length (xs.getD k zA).spans := by
  obtain ⟨ad, c, e, _, hK, hc0⟩ := Kd.C_get h zA (k : Int) (by omega) (by omega)
  have hc : ∀ j u, c[j]? = some u → w.cell? (ad.add (k * 13 + j)) = some u := hc0
  have hK : kA.K w (xs.getD k zA) c := hK
  obtain ⟨F, f, B, d, rfl, -, gf, -, gd⟩ := kA_open hK
  have hf : ∀ j u, 0 < j → _ → w.cell? ⟨(ad.add (k * 13)).block, (ad.add (k * 13)).off + j, none⟩ = some u := fun j u hj hu => by rw [← add_field _ _ j hj]; exact hc j u hu
  exact ⟨ad, F, f, B, d, e, ⟨hc 0 _ rfl, hf 1 _ (by omega) rfl, hf 2 _ (by omega) rfl, hf 3 _ (by omega) rfl, hf 4 _ (by omega) rfl, hf 5 _ (by omega) rfl⟩, ⟨hf 6 _ (by omega) rfl, hf 7 _ (by omega) rfl, hf 8 _ (by omega) rfl, hf 9 _ (by omega) rfl, hf 10 _ (by omega) rfl⟩, ⟨hf 11 _ (by omega) rfl, hf 12 _ (by omega) rfl⟩, gf, gd⟩
/-- The block of that number. -/
def blk (i : Nat) : Code → Option Code
  | .block j c => if j = i then some (.block j c) else blk i c
  | .seq a b => (blk i a).orElse fun _ => blk i b
  | .cond _ a b => (blk i a).orElse fun _ => blk i b
  | .loop c => blk i c
  | .scope c => blk i c
  | _ => none
noncomputable def sw : Code := (blk 2 body).getD .skip
/-- Ahead of the switch. -/
structure SI (w : World) (B : Option Addr) (c : Nat) (l : List A) (p q : Nat) (k i b : Nat) (now kd : Int) (n : Nat) (L : Lg) (v v' : Nat → Value) (x : A) (F : Option Addr) (f : Nat) (BB : Option Addr) (d : Nat) (a : Act) (wr : World) : Prop where
  size : a.tmps.size = 437
  defs : a.defers = []
  s0 : a.tmps.getD 0 undef = .slice B l.length c
  s3 : a.tmps.getD 3 undef = .pointer (some ⟨p, 0, none⟩)
  s4 : a.tmps.getD 4 undef = .pointer (some ⟨q, 0, none⟩)
  s5 : a.tmps.getD 5 undef = .int .u64 now
  s7 : a.tmps.getD 7 undef = .pointer (some ⟨b, 0, none⟩)
  s8 : a.tmps.getD 8 undef = .int .i64 (i : Int)
  s9 : a.tmps.getD 9 undef = .int .u64 (L.sp i).next
  s46 : a.tmps.getD 46 undef = .slice B l.length c
  s47 : a.tmps.getD 47 undef = .int .i64 (l.length : Int)
  s48 : a.tmps.getD 48 undef = .int .i64 (k : Int)
  s87 : a.tmps.getD 87 undef = .int .u8 kd
  i3 : i < 3
  k1 : k ≤ 100
  nk : n ≤ k
  w0 : 1 ≤ now
  w1 : now ≤ 5764608622749902080 + 200 * ((k : Int) + 1)
  ba : BA x
  fr : x.p.fr.length ≤ 3
  sl : x.spans.length ≤ 40
  bp : b ≠ p
  bq : b ≠ q
  bx : wr.heap[b]? = some (aO x F f BB d)
  cf : Kd.C kR w F x.p.fr.length x.p.fr
  cq : Kd.C kQ w BB x.spans.length x.spans
  pl : PL w wr p q n L L v v'
/-- Behind it. -/
structure SO (w : World) (B : Option Addr) (c : Nat) (l : List A) (p q : Nat) (k i : Nat) (a : Act) (wr : World) : Prop where
  size : a.tmps.size = 437
  defs : a.defers = []
  rel : ∃ (now : Int) (n : Nat) (L : Lg) (v v' : Nat → Value), 1 ≤ now ∧ now ≤ 5764608622749902080 + 200 * ((k : Int) + 1) ∧ n ≤ k + 1 ∧ PL w wr p q n L L v v' ∧ a.tmps.getD 0 undef = .slice B l.length c ∧ a.tmps.getD 3 undef = .pointer (some ⟨p, 0, none⟩) ∧ a.tmps.getD 4 undef = .pointer (some ⟨q, 0, none⟩) ∧ a.tmps.getD 5 undef = .int .u64 now ∧ a.tmps.getD 8 undef = .int .i64 (i : Int) ∧ a.tmps.getD 46 undef = .slice B l.length c ∧ a.tmps.getD 47 undef = .int .i64 (l.length : Int) ∧ a.tmps.getD 48 undef = .int .i64 (k : Int)
end Go.Proofs.Ytgdboikoejodpaa.Plays0

namespace Go.Proofs.Ytgdboikoejodpaa.PlaysL
open Go Go.RowKit Go.Proofs.YtgdboikoejodpaaW.PrintWords Go.Proofs.YtgdboikoejodpaaW.PrintLast Go.Proofs.YtgdboikoejodpaaW.PrintMore Go.Proofs.Ytgdboikoejodpaa.Keep Go.Proofs.Ytgdboikoejodpaa.Led Go.Proofs.Ytgdboikoejodpaa.Rate Go.Proofs.Ytgdboikoejodpaa.Rd Go.Proofs.Ytgdboikoejodpaa.Timer Go.Proofs.Ytgdboikoejodpaa.LedSp Go.Proofs.Ytgdboikoejodpaa.Drop Go.Proofs.Ytgdboikoejodpaa.In Go.Proofs.Ytgdboikoejodpaa.Split Go.Proofs.Ytgdboikoejodpaa.GoneP Go.Proofs.Ytgdboikoejodpaa.Gone Go.Proofs.Ytgdboikoejodpaa.AckP Go.Proofs.Ytgdboikoejodpaa.Ack Go.Proofs.Ytgdboikoejodpaa.Clone Go.Proofs.Ytgdboikoejodpaa.Sent Go.Proofs.Ytgdboikoejodpaa.Inv Go.Proofs.Ytgdboikoejodpaa.Fire Go.Proofs.Ytgdboikoejodpaa.Law Go.Proofs.Ytgdboikoejodpaa.Ref Go.Proofs.Ytgdboikoejodpaa.RefB Go.Proofs.Ytgdboikoejodpaa.RefLost Go.Proofs.Ytgdboikoejodpaa.RefSent Go.Proofs.Ytgdboikoejodpaa.RefAck Go.Proofs.Ytgdboikoejodpaa.RefFire Go.Proofs.Ytgdboikoejodpaa.Opens Go.Proofs.Ytgdboikoejodpaa.OpenL Go.Proofs.Ytgdboikoejodpaa.PlaysP Go.Proofs.Ytgdboikoejodpaa.PlaysQ Go.Proofs.Ytgdboikoejodpaa.PlaysW Go.Proofs.Ytgdboikoejodpaa.Plays0
set_option linter.unusedVariables false

theorem goneO_len {n : Nat} {L : Lg} (h : LgN n L) (i : Nat) (hi : i < 3) (now : Int) (hn : 0 ≤ now ∧ now ≤ 1099511627776) : (goneO i now L).length ≤ 1024 := by
  have g := goneG_b (L.sp i).acked now hn (L.sp i).list L.r h.b.r (h.b.list i hi) (h.fl i hi) (L.sp i).list.length (Nat.le_refl _)
  rw [List.take_length] at g
  have := g.n
  have := h.b.many i hi
  show (goneG (L.sp i).acked now (L.sp i).list L.r).lost.length ≤ 1024
  omega
theorem ackX_len {n : Nat} {L : Lg} (h : LgN n L) (hnn : n ≤ 500000) (s now : Int) (l : List Q) (hq : ∀ x ∈ l, pq x) (hn : 0 ≤ now) : (ackX s l now L).1.length ≤ 1024 ∧ (ackX s l now L).2.1.length ≤ 1024 := by
  unfold ackX
  split
  · exact ⟨Nat.zero_le _, Nat.zero_le _⟩
  · rename_i ho
    obtain ⟨e1, e2⟩ := of_in (s := s) (by omega)
    unfold ackL
    by_cases h1 : l.all (okQ (L.sp s.toNat).next) = false
    · rw [if_pos h1]; exact ⟨Nat.zero_le _, Nat.zero_le _⟩
    · rw [if_neg h1]
      have h1 : l.all (okQ (L.sp s.toNat).next) = true := by simpa using h1
      by_cases h2 : gotL l (L.sp s.toNat).list = []
      · rw [if_pos h2]; exact ⟨Nat.zero_le _, Nat.zero_le _⟩
      · rw [if_neg h2]
        exact ⟨Nat.le_trans (List.length_filter_le _ _) (h.b.many _ e2), goneO_len (midN h hnn s.toNat e2 l hq h1 now ⟨hn, by omega⟩ h2) s.toNat e2 now ⟨hn, by omega⟩⟩
theorem fireK_len {n : Nat} {L : Lg} (h : LgN n L) (now : Int) (hn : 0 ≤ now ∧ now ≤ 1099511627776) (k : Nat) (hk : k ≤ 3) (j : Nat) : ((fireK now L k).2.1 j).length ≤ 1024 := by
  induction k with
  | zero => exact Nat.zero_le _
  | succ k ih =>
    have h1 := ih (by omega)
    unfold fireK
    split
    · show (setO _ k _ j).length ≤ 1024
      unfold setO
      split
      · exact goneO_len (fireK_N h now hn k (by omega)) k (by omega) now hn
      · exact h1
    · exact h1
theorem fireL_len {n : Nat} {L : Lg} (h : LgN n L) (now : Int) (hn : 0 ≤ now) (j : Nat) : ((fireL now L).2.1 j).length ≤ 1024 := by
  unfold fireL
  split
  · exact Nat.zero_le _
  · rename_i h1
    have := fireK_len h now ⟨hn, by omega⟩ 3 (by omega) j
    split <;> exact this
theorem timer_b {n : Nat} {L : Lg} (h : LgN n L) : 0 ≤ (timerL L).1 ∧ (timerL L).1 ≤ 5764608622749902080 := by
  have t3 := tmAt_bound h.b 3 (by omega)
  have h1 := h.b.r.sm
  have h2 := h.b.r.va
  have h3 := h.b.last
  unfold timerL
  split
  · constructor
    · exact t3.1
    · show tmAt L 3 ≤ _; omega
  · have hp := pw2 (t := mn L.tries 16) (by unfold mn; split <;> omega)
    have hb : 0 ≤ L.r.smooth + mx (4 * L.r.vary) 1 ∧ L.r.smooth + mx (4 * L.r.vary) 1 ≤ 87960930222080 := by unfold mx; split <;> omega
    have hm : (L.r.smooth + mx (4 * L.r.vary) 1) * 2 ^ (mn L.tries 16).toNat ≤ 87960930222080 * 65536 := Int.mul_le_mul hb.2 hp.2 hp.1 (by decide)
    have h0 : 0 ≤ (L.r.smooth + mx (4 * L.r.vary) 1) * 2 ^ (mn L.tries 16).toNat := Int.mul_nonneg hb.1 hp.1
    constructor
    · show 0 ≤ L.last + _; omega
    · show L.last + _ ≤ _; omega
theorem bq_pq {l : List Q} (h : ∀ s ∈ l, BQ s) : ∀ x ∈ l, pq x := fun x hx => ⟨(wf64_bd (h x hx).1).1, (wf64_bd (h x hx).1).2, (wf64_bd (h x hx).2).1, (wf64_bd (h x hx).2).2⟩
end Go.Proofs.Ytgdboikoejodpaa.PlaysL

