/- The reference's lost: the walk. -/
import Derived.Test.YtgdboikoejodpaaRefB
namespace Go.Proofs.Ytgdboikoejodpaa.RefLost
open Go Go.RowKit Go.Proofs.YtgdboikoejodpaaW.PrintWords Go.Proofs.YtgdboikoejodpaaW.PrintLast Go.Proofs.YtgdboikoejodpaaW.PrintMore Go.Proofs.Ytgdboikoejodpaa.Keep Go.Proofs.Ytgdboikoejodpaa.Led Go.Proofs.Ytgdboikoejodpaa.Rate Go.Proofs.Ytgdboikoejodpaa.Rd Go.Proofs.Ytgdboikoejodpaa.Timer Go.Proofs.Ytgdboikoejodpaa.LedSp Go.Proofs.Ytgdboikoejodpaa.Drop Go.Proofs.Ytgdboikoejodpaa.In Go.Proofs.Ytgdboikoejodpaa.Split Go.Proofs.Ytgdboikoejodpaa.GoneP Go.Proofs.Ytgdboikoejodpaa.Gone Go.Proofs.Ytgdboikoejodpaa.AckP Go.Proofs.Ytgdboikoejodpaa.Ack Go.Proofs.Ytgdboikoejodpaa.Clone Go.Proofs.Ytgdboikoejodpaa.Sent Go.Proofs.Ytgdboikoejodpaa.Inv Go.Proofs.Ytgdboikoejodpaa.Fire Go.Proofs.Ytgdboikoejodpaa.Law Go.Proofs.Ytgdboikoejodpaa.Ref Go.Proofs.Ytgdboikoejodpaa.RefB
set_option linter.unusedVariables false

abbrev eO (x : S) (A : Option Addr) (c : Nat) : Obj := .cells #[.int .u64 x.pn, .int .u64 x.time, .int .u64 x.size, .bool x.asks, .slice A x.fn c] 30 (0, 0)
/-- What holds at the head of the loop. -/
structure RI (w wr : World) (q base i : Nat) (L : Lg) (v : Nat → Value) (now : Int) (k : Nat) (vl vs : Value) : Prop where
  led : RL wr q base (setSp { L with r := (goneG (L.sp i).acked now ((L.sp i).list.take k) L.r).r } i { L.sp i with timeout := (goneG (L.sp i).acked now ((L.sp i).list.take k) L.r).t }) v
  lost : RE wr w.heap.size vl (goneG (L.sp i).acked now ((L.sp i).list.take k) L.r).lost
  stay : RE wr w.heap.size vs (goneG (L.sp i).acked now ((L.sp i).list.take k) L.r).stay
  apart : ∀ b, vl.ownBlock = some b → vs.ownBlock ≠ some b
  kp : Kp q w wr
/-- What holds inside a round. -/
structure RG (w W : World) (q base : Nat) (Lc : Lg) (v : Nat → Value) (vl vs : Value) (lo st : List S) (b : Nat) (x : S) (A : Option Addr) (c : Nat) : Prop where
  led : RL W q base Lc v
  lost : RE W w.heap.size vl lo
  stay : RE W w.heap.size vs st
  apart : ∀ k, vl.ownBlock = some k → vs.ownBlock ≠ some k
  kp : Kp q w W
  blk : W.heap[b]? = some (eO x A c)
  bl : ∀ k, vl.ownBlock = some k → k < b
  bs : ∀ k, vs.ownBlock = some k → k < b
  hb : w.heap.size ≤ b
theorem RG.drewN {w W : World} {q base : Nat} {Lc : Lg} {v : Nat → Value} {vl vs : Value} {lo st : List S} {b : Nat} {x : S} {A : Option Addr} {c : Nat} (h : RG w W q base Lc v vl vs lo st b x A c) (n : Nat) : RG w (W.drewN n) q base Lc v vl vs lo st b x A c :=
  ⟨h.led.drewN n, RE_move h.lost (fun _ _ => rfl), RE_move h.stay (fun _ _ => rfl), h.apart, h.kp.drewN n, h.blk, h.bl, h.bs, h.hb⟩
/-- The box as it lies. -/
theorem RG.box {w W : World} {q base : Nat} {Lc : Lg} {v : Nat → Value} {vl vs : Value} {lo st : List S} {b : Nat} {x : S} {A : Option Addr} {c : Nat} (h : RG w W q base Lc v vl vs lo st b x A c) :
    W.cell? ⟨b, 0, none⟩ = some (.int .u64 x.pn) ∧ W.cell? ⟨b, 1, none⟩ = some (.int .u64 x.time) ∧ W.cell? ⟨b, 2, none⟩ = some (.int .u64 x.size) ∧ W.cell? ⟨b, 3, none⟩ = some (.bool x.asks) ∧ W.cell? ⟨b, 4, none⟩ = some (.slice A x.fn c) :=
  ⟨blk_cell h.blk 0, blk_cell h.blk 1, blk_cell h.blk 2, blk_cell h.blk 3, blk_cell h.blk 4⟩
/-- Behind an append to what stays. -/
theorem RG.more_stay {w W W' : World} {q base : Nat} {Lc : Lg} {v : Nat → Value} {vl vs v1 : Value} {lo st st' : List S} {b : Nat} {x : S} {A : Option Addr} {c : Nat} (h : RG w W q base Lc v vl vs lo st b x A c) (ho : ∀ k, own q v k → k < w.heap.size) (hr : RE W' w.heap.size v1 st') (hB : Below w.heap.size W W') (hG : W.grownBy W' vs.ownBlock) (hN : v1.ownBlock = vs.ownBlock ∨ ∃ b, v1.ownBlock = some b ∧ W.heap.size ≤ b) :
    RL W' q base Lc v ∧ RE W' w.heap.size vl lo ∧ (∀ k, vl.ownBlock = some k → v1.ownBlock ≠ some k) ∧ Kp q w W' := by
  refine ⟨h.led.stays (fun k hk => hB.block k (ho k hk)), RE_grown h.lost hG (fun k hk e => h.apart k hk e), fun k hk e => ?_, ⟨hB.os.trans h.kp.os, hB.tape.trans h.kp.tape, hB.output.trans h.kp.output, Nat.le_trans h.kp.size hB.size, fun k hk hn => (hB.block k hk).trans (h.kp.block k hk hn)⟩⟩
  · rcases hN with h1 | ⟨b', h1, h2⟩
    · exact h.apart k hk (h1 ▸ e)
    · rw [h1] at e; injection e with e
      have := (RE_bound h.lost k hk).2
      omega
/-- Behind an append to what is lost. -/
theorem RG.more_lost {w W W' : World} {q base : Nat} {Lc : Lg} {v : Nat → Value} {vl vs v1 : Value} {lo st lo' : List S} {b : Nat} {x : S} {A : Option Addr} {c : Nat} (h : RG w W q base Lc v vl vs lo st b x A c) (ho : ∀ k, own q v k → k < w.heap.size) (hr : RE W' w.heap.size v1 lo') (hB : Below w.heap.size W W') (hG : W.grownBy W' vl.ownBlock) (hN : v1.ownBlock = vl.ownBlock ∨ ∃ b, v1.ownBlock = some b ∧ W.heap.size ≤ b) :
    RL W' q base Lc v ∧ RE W' w.heap.size vs st ∧ (∀ k, v1.ownBlock = some k → vs.ownBlock ≠ some k) ∧ Kp q w W' ∧ W'.heap[b]? = some (eO x A c) := by
  refine ⟨h.led.stays (fun k hk => hB.block k (ho k hk)), RE_grown h.stay hG (fun k hk e => h.apart k e hk), fun k hk e => ?_, ⟨hB.os.trans h.kp.os, hB.tape.trans h.kp.tape, hB.output.trans h.kp.output, Nat.le_trans h.kp.size hB.size, fun k hk hn => (hB.block k hk).trans (h.kp.block k hk hn)⟩, ?_⟩
  · rcases hN with h1 | ⟨b', h1, h2⟩
    · exact h.apart k (h1 ▸ hk) e
    · rw [h1] at hk; injection hk with hk
      have := (RE_bound h.stay k e).2
      omega
  · exact (hG.block b (blk_lt h.blk) (fun e => absurd (h.bl b e.symm) (by omega))).trans h.blk
/-- Rows and boxes stay where only the ledger turns. -/
theorem RE_kp {q : Nat} {w W W' : World} {v : Value} {l : List S} (h : RE W w.heap.size v l) (hk : Kp q W W') (hq : q < w.heap.size) : RE W' w.heap.size v l :=
  RE_move h (fun b hb => hk.block b (RE_bound h b hb).2 (fun e => by have := (RE_bound h b hb).1; omega))

set_option maxHeartbeats 8000000 in
set_option maxRecDepth 100000 in
theorem rlost_calls {w : World} {q base : Nat} {L : Lg} {v : Nat → Value} (h : RL w q base L v) (hb : LgB L) (i : Nat) (hi : i < 3) (hf : sumS (L.sp i).list ≤ L.r.flight) (now : Int) (hn : 0 ≤ now ∧ now ≤ 1099511627776) :
    Calls Try.prog 42 #[.pointer (some ⟨q, 0, none⟩), .int .i64 (i : Int), .int .u64 now] w fun e w' => ∃ vl vs, e = .returned vl ∧ RL w' q base (goneL i now L) (setV v i vs) ∧ RE w' w.heap.size vl (goneO i now L) ∧ (∀ b, vs.ownBlock = some b → w.heap.size ≤ b) ∧ Kp q w w' := by
  have i0 : ((i : Int) ≥ 3) = False := eq_false (by omega)
  obtain ⟨A, c, ev, hC⟩ := RE_slice (h.row i hi)
  obtain ⟨l, hl⟩ : ∃ l, (L.sp i).list = l := ⟨_, rfl⟩
  obtain ⟨ac, hac⟩ : ∃ ac, (L.sp i).acked = ac := ⟨_, rfl⟩
  have hL0 := h.timeout i hi 0
  have hlb : ∀ x ∈ l, pk x := hl ▸ hb.list i hi
  have hlm : l.length ≤ 1024 := hl ▸ hb.many i hi
  have hab : 0 ≤ ac ∧ ac ≤ 4611686018427387904 := hac ▸ hb.acked i hi
  rw [hl] at hC hf ev
  have HGB := Lib.hid (goneG_b ac now hn l L.r hb.r hlb hf)
  obtain ⟨-, -, -, z3⟩ := h.ways i hi
  have y3 := h.fz (i * 4 + 3)
  have K0 := (Kp.refl q w).set (i * 4 + 3) (.int .u64 0)
  have HOW : Hid (∀ k, own q v k → k < w.heap.size) := Lib.hid (fun k hk => (h.own_base k hk).2)
  have HP := Lib.hid (blk_lt h.blk)
  have HNE := Lib.hid (h.row_ne i hi)
  have HL0 := Lib.hid hL0
  have HK0 := Lib.hid K0
  have HLB := Lib.hid hlb
  have HLL := Lib.hid hl
  have HAC := Lib.hid hac
  have HH := Lib.hid h
  have HEV := Lib.hid ev
  have HFF := Lib.hid hf
  obtain ⟨n0, n1⟩ := hn
  clear h hb hL0 K0 hC hlb hl hac ev hf
  go_enter Try.func42, Try.ntmps42
  go_upto_region 4 with fail
  generalize w.setCell ⟨q, i * 4 + 3, none⟩ (.int .u64 0) = w0 at HL0 HK0 ⊢
  clear z3 y3
  go_wp2_with fail
  go_loopw [8, 9, 10] (fun vl vs j wr => ∃ k : Nat, k ≤ l.length ∧ j = .int .i64 (k : Int) ∧ (∃ A c n, vl = .slice A n c) ∧ (∃ A c n, vs = .slice A n c) ∧ Hid (RI w wr q base i L v now k vl vs)) (fun _ _ j _ => l.length - (intOf j).toNat)
  case atStart =>
    exact ⟨0, by omega, rfl, ⟨_, _, _, rfl⟩, ⟨_, _, _, rfl⟩, Lib.hid ⟨HL0.out, Kd.R_nil _ _ _ _ _, Kd.R_nil _ _ _ _ _, fun _ h => (nomatch h), HK0.out⟩⟩
  case round =>
    obtain ⟨k, hk, rfl, ⟨Al, cl, nl, rfl⟩, ⟨As, cs, ns, rfl⟩, HI⟩ := hrel
    by_cases hkl : k < l.length
    · obtain ⟨k0, -, -, -⟩ := HI.out.led.ways i hi
      rw [HEV.out] at k0
      have hXr : Kd.C kE wr A l.length l := by have h1 := HI.out.led.row i hi; rw [setSp_same, HEV.out] at h1; simp only [HLL.out] at h1; exact RE_slice' h1
      obtain ⟨ad, A', c', eA, j0, j1, j2, j3, j4⟩ := at_E hXr k hkl
      subst eA
      obtain ⟨g, hg⟩ : ∃ g, goneG ac now (l.take k) L.r = g := ⟨_, rfl⟩
      have hgb := HGB.out k hk
      rw [hg] at hgb
      have hstep := goneG_take ac now l L.r k hkl
      rw [hg] at hstep
      have hx := HLB.out _ (rdS_mem hkl)
      obtain ⟨x, hxe⟩ : ∃ x, rdS l (k : Int) = x := ⟨_, rfl⟩
      rw [hxe] at j0 j1 j2 j3 j4 hx hstep
      obtain ⟨ld, rl, rs, ap, kp⟩ := HI.out
      rw [HLL.out, HAC.out, hg] at ld rl rs
      have B1 := (Below.refl wr.heap.size wr).alloc (Nat.le_refl _) (.cells #[.int .u64 x.pn, .int .u64 x.time, .int .u64 x.size, .bool x.asks, .slice A' x.fn c'] 30)
      have HGS : Hid (RG w (wr.alloc (.cells #[.int .u64 x.pn, .int .u64 x.time, .int .u64 x.size, .bool x.asks, .slice A' x.fn c'] 30)) q base (setSp { L with r := g.r } i { L.sp i with timeout := g.t }) v (.slice Al nl cl) (.slice As ns cs) g.lost g.stay wr.heap.size x A' c') :=
        Lib.hid ⟨ld.below B1, Kd.R_below rl B1, Kd.R_below rs B1, ap, kp.trans (Kp.of_below B1), heap_alloc_new _ _, fun k hk => (RE_bound rl k hk).2, fun k hk => (RE_bound rs k hk).2, kp.size⟩
      have HGG := Lib.hid hgb
      have HST := Lib.hid hstep
      have HX := Lib.hid hx
      clear hXr hgb hstep hxe ld rl rs ap kp B1 hg HI
      go_upto_region 8 with fail
      generalize wr.alloc (.cells #[.int .u64 x.pn, .int .u64 x.time, .int .u64 x.size, .bool x.asks, .slice A' x.fn c'] 30) = w1 at HGS ⊢
      clear j0 j1 j2 j3 j4 k0
      obtain ⟨q0, q1, q2, q3, q4⟩ := HGS.out.box
      obtain ⟨c0, c1, c2, c3⟩ := HGS.out.led.ways i hi
      rw [setSp_same] at c1 c2 c3
      simp only [HAC.out] at c2
      have hpb := pat_bound HGG.out.rb
      obtain ⟨t0, t1⟩ := HGG.out.tb
      obtain ⟨x1, x2, x3, x4, x5, x6⟩ := HX.out
      obtain ⟨pt, hpt⟩ : ∃ t, patR g.r = t := ⟨_, rfl⟩
      rw [hpt] at hpb
      obtain ⟨p0, p1⟩ := hpb
      have hwl : IntKind.u64.wrap (x.time + pt) = x.time + pt := by rw [IntKind.wrap_u64]; omega
      have HPT := Lib.hid hpt
      have hgl : g.lost.length ≤ 1024 := by have := HGG.out.n; rw [List.length_take] at this; omega
      have hgs : g.stay.length ≤ 1024 := by have := HGG.out.n; rw [List.length_take] at this; omega
      clear hpt
      by_cases hA : ac ≤ x.pn
      · have hd : decide (x.pn ≥ ac) = true := by simp; omega
        have e : gstep ac now g x = { g with stay := g.stay ++ [x] } := by unfold gstep; rw [if_pos hA]
        have HE := Lib.hid (HST.out.trans e)
        clear e
        go_quiet (fail)
        have HGS4 := Lib.hid (HGS.out.drewN nq)
        generalize w1.drewN nq = w4 at HGS4 ⊢
        clear c0 c1 c2 c3 q0 q1 q2 q3 q4 HGS
        obtain ⟨q0, q1, q2, q3, q4⟩ := HGS4.out.box
        have hsz4 := Nat.lt_of_le_of_lt HGS4.out.hb (blk_lt HGS4.out.blk)
        go_wp2_with (first
          | ((with_reducible refine gate_builtin (b := .append) (xs := #[.tmp 44, .tmp 46]) rfl ?_); refine appE (w0 := w4) w.heap.size rfl (.tmp 44) (.tmp 46) rfl (q := x) HGS4.out.stay rfl rfl (Below.refl _ _) (by omega) (by omega) ?_; intro v8 w8 R8 B8 G8 N8))
        obtain ⟨L8, R8l, A8, K8⟩ := HGS4.out.more_stay HOW.out R8 B8 G8 N8
        obtain ⟨A8a, c8a, e8a, -⟩ := RE_slice R8
        subst e8a
        go_roundw
        case rel =>
          refine ⟨k + 1, by omega, by simp, ⟨_, _, _, rfl⟩, ⟨_, _, _, rfl⟩, Lib.hid ⟨?_, ?_, ?_, A8, K8⟩⟩
          · rw [HLL.out, HAC.out, HE.out]; exact L8
          · rw [HLL.out, HAC.out, HE.out]; exact R8l
          · rw [HLL.out, HAC.out, HE.out]; exact R8
        case measure => simp [intOf]; omega
      · have hd : decide (x.pn ≥ ac) = false := by simp; omega
        have PC : ∀ (W : World), RG w W q base (setSp { L with r := g.r } i { L.sp i with timeout := g.t }) v (.slice Al nl cl) (.slice As ns cs) g.lost g.stay wr.heap.size x A' c' → ∀ n, Calls Try.prog 47 #[.pointer (some ⟨q, 0, none⟩)] (W.drewN n) fun e w' => e = .returned (.int .u64 pt) ∧ ∃ m, w' = (W.drewN n).drewN m := fun W hW n => by
          have := rpat_calls (hW.led.drewN n) HGG.out.rb
          rw [show patR (setSp { L with r := g.r } i { L.sp i with timeout := g.t }).r = pt from HPT.out] at this
          exact this.mono (fun e w' ⟨h1, h2⟩ => ⟨h1, 0, by rw [World.drewN_zero]; exact h2.symm⟩)
        have HPC := Lib.hid PC
        clear PC
        go_quiet (fail)
        have HGS2 := Lib.hid (HGS.out.drewN nq)
        generalize w1.drewN nq = w2 at HGS2 ⊢
        clear c0 c1 c2 c3 q0 q1 q2 q3 q4 HGS
        obtain ⟨q0, q1, q2, q3, q4⟩ := HGS2.out.box
        have HPC2 := Lib.hid (HPC.out w2 HGS2.out)
        go_wp2_with fail
        go_quiet ((go_at_call 47; exact Calls.quiet_of (HPC2.out _)))
        have HGS3 := Lib.hid (HGS2.out.drewN nq)
        generalize w2.drewN nq = w3 at HGS3 ⊢
        clear q0 q1 q2 q3 q4 HGS2 HPC2 HPC
        obtain ⟨q0, q1, q2, q3, q4⟩ := HGS3.out.box
        obtain ⟨c0, c1, c2, c3⟩ := HGS3.out.led.ways i hi
        rw [setSp_same] at c1 c2 c3
        simp only [HAC.out] at c2
        have hwp : IntKind.u64.wrap (x.pn + 3) = x.pn + 3 := by rw [IntKind.wrap_u64]; omega
        go_wp2_with fail
        by_cases hB : x.pn + 3 < ac ∨ x.time + pt ≤ now
        · have e : gstep ac now g x = { g with lost := g.lost ++ [x], r := lessR x now g.r } := by unfold gstep; rw [if_neg (by omega), HPT.out, if_pos hB]
          have HE := Lib.hid (HST.out.trans e)
          clear e
          go_cut [65] from 53 to 65 (fun b wc => b = .bool true ∧ ∃ n, wc = w3.drewN n)
          case first =>
            have hd2 : (decide (x.pn + 3 < ac) = true) ∨ (decide (x.pn + 3 < ac) = false ∧ decide (x.time + pt ≤ now) = true) := by
              by_cases q : x.pn + 3 < ac
              · exact .inl (by simp [q])
              · exact .inr ⟨by simp [q], by simp; omega⟩
            rcases hd2 with hd2 | ⟨hd2, hd3⟩
            · go_quiet (fail)
              go_wp2_with fail
              go_meet
              case rel => exact ⟨rfl, _, rfl⟩
            · go_quiet (fail)
              go_wp2_with fail
              go_meet
              case rel => exact ⟨rfl, _, rfl⟩
          case rest =>
            obtain ⟨rfl, n4, rfl⟩ := hcut
            have HGS4 := Lib.hid (HGS3.out.drewN n4)
            clear q0 q1 q2 q3 q4 c0 c1 c2 c3 HGS3
            generalize w3.drewN n4 = w4 at HGS4 ⊢
            obtain ⟨q0, q1, q2, q3, q4⟩ := HGS4.out.box
            have hsz4 := Nat.lt_of_le_of_lt HGS4.out.hb (blk_lt HGS4.out.blk)
            go_wp2_with (first
          | ((with_reducible refine gate_builtin (b := .append) (xs := #[.tmp 66, .tmp 68]) rfl ?_); refine appE (w0 := w4) w.heap.size rfl (.tmp 66) (.tmp 68) rfl (q := x) HGS4.out.lost rfl rfl (Below.refl _ _) (by omega) (by omega) ?_; intro v8 w8 R8 B8 G8 N8))
            obtain ⟨L8, R8s, A8, K8, hb8⟩ := HGS4.out.more_lost HOW.out R8 B8 G8 N8
            clear q0 q1 q2 q3 q4 G8 N8 B8
            obtain ⟨A8a, c8a, e8a, -⟩ := RE_slice R8
            subst e8a
            have q1 := blk_cell hb8 1
            obtain ⟨-, -, -, m3, -, m5, -, -⟩ := L8.rate
            have hbe := HGG.out.rb.be
            have hwi := HGG.out.rb.wi
            have hrr : (setSp { L with r := g.r } i { L.sp i with timeout := g.t }).r = g.r := rfl
            rw [hrr] at m3 m5
            have hwt : IntKind.u64.wrap (x.time + 1) = x.time + 1 := by rw [IntKind.wrap_u64]; omega
            have HL8 := Lib.hid L8
            have HR8 := Lib.hid R8
            have HR8s := Lib.hid R8s
            have HA8 := Lib.hid A8
            have HK8 := Lib.hid K8
            have HP2 := HP.out
            have FIN : ∀ W, RL W q base (setSp { L with r := lessR x now g.r } i { L.sp i with timeout := g.t }) v → Kp q w8 W → RI w W q base i L v now (k + 1) (.slice A8a (g.lost ++ [x]).length c8a) (.slice As ns cs) := by
              intro W hW hK
              refine ⟨?_, ?_, ?_, HA8.out, HK8.out.trans hK⟩
              · rw [HLL.out, HAC.out, HE.out]; exact hW
              · rw [HLL.out, HAC.out, HE.out]; exact RE_kp HR8.out hK HP2
              · rw [HLL.out, HAC.out, HE.out]; exact RE_kp HR8s.out hK HP2
            have HFIN := Lib.hid FIN
            clear FIN L8 R8 R8s A8 K8 hb8
            by_cases hC : x.time + 1 > g.r.began
            · have hdc : decide (x.time + 1 > g.r.began) = true := by simp; omega
              have el : lessR x now g.r = { g.r with flight := g.r.flight - x.size, began := now + 1, window := mx (g.r.window / 2) 2400, limit := mx (g.r.window / 2) 2400 } := by unfold lessR; rw [if_pos hC]
              have HEL := Lib.hid el
              clear el
              go_quiet (fail)
              have HL9 := Lib.hid (HL8.out.drewN nq)
              have HK9 := Lib.hid ((Kp.refl q w8).drewN nq)
              generalize w8.drewN nq = w9 at HL9 HK9 ⊢
              clear q1 m3 m5 hdc
              obtain ⟨-, -, -, -, -, m5, -, -⟩ := HL9.out.rate
              rw [hrr] at m5
              have z5 := HL9.out.fz 17
              have hwn : IntKind.u64.wrap (now + 1) = now + 1 := by rw [IntKind.wrap_u64]; omega
              go_upto_region 15 with fail
              have HL10 : Hid (RL (w9.setCell ⟨q, 17, none⟩ (.int .u64 (now + 1))) q base { setSp { L with r := g.r } i { L.sp i with timeout := g.t } with r := { g.r with began := now + 1 } } v) := Lib.hid (HL9.out.put 17 (.int .u64 (now + 1)) rfl (fun _ _ => rfl))
              have HK10 := Lib.hid (HK9.out.set 17 (.int .u64 (now + 1)))
              generalize w9.setCell ⟨q, 17, none⟩ (.int .u64 (now + 1)) = w10 at HL10 HK10 ⊢
              clear m5 z5 HL9 HK9
              obtain ⟨-, -, -, m3, -, -, -, -⟩ := HL10.out.rate
              have m3 : w10.cell? ⟨q, 15, none⟩ = some (.int .u64 g.r.window) := m3
              have z3 := HL10.out.fz 15
              have hd0 : 0 ≤ g.r.window / 2 ∧ g.r.window / 2 ≤ g.r.window := by omega
              have hdt : g.r.window.tdiv 2 = g.r.window / 2 := Int.tdiv_eq_ediv_of_nonneg (by omega)
              have hwd : IntKind.u64.wrap (g.r.window / 2) = g.r.window / 2 := by rw [IntKind.wrap_u64]; omega
              go_upto_region 16 with fail
              have HL11 : Hid (RL (w10.setCell ⟨q, 15, none⟩ (.int .u64 (g.r.window / 2))) q base { setSp { L with r := g.r } i { L.sp i with timeout := g.t } with r := { g.r with began := now + 1, window := g.r.window / 2 } } v) := Lib.hid (HL10.out.put 15 (.int .u64 (g.r.window / 2)) rfl (fun _ _ => rfl))
              have HK11 := Lib.hid (HK10.out.set 15 (.int .u64 (g.r.window / 2)))
              generalize w10.setCell ⟨q, 15, none⟩ (.int .u64 (g.r.window / 2)) = w11 at HL11 HK11 ⊢
              clear m3 z3 HL10 HK10
              obtain ⟨-, -, -, m3, m4, -, -, -⟩ := HL11.out.rate
              have m3 : w11.cell? ⟨q, 15, none⟩ = some (.int .u64 (g.r.window / 2)) := m3
              have z3 := HL11.out.fz 15
              by_cases hm : g.r.window / 2 < 2400
              · have hmx : mx (g.r.window / 2) 2400 = 2400 := by unfold mx; rw [if_pos hm]
                go_upto_region 18 with fail
                have HL12 : Hid (RL (w11.setCell ⟨q, 15, none⟩ (.int .u64 2400)) q base { setSp { L with r := g.r } i { L.sp i with timeout := g.t } with r := { g.r with began := now + 1, window := 2400 } } v) := Lib.hid (HL11.out.put 15 (.int .u64 2400) rfl (fun _ _ => rfl))
                have HK12 := Lib.hid (HK11.out.set 15 (.int .u64 2400))
                generalize w11.setCell ⟨q, 15, none⟩ (.int .u64 2400) = w12 at HL12 HK12 ⊢
                clear m3 m4 z3 HL11 HK11
                obtain ⟨-, -, -, m3, m4, -, -, -⟩ := HL12.out.rate
                have m3 : w12.cell? ⟨q, 15, none⟩ = some (.int .u64 2400) := m3
                have m4 : w12.cell? ⟨q, 16, none⟩ = some (.int .u64 g.r.limit) := m4
                have z4 := HL12.out.fz 16
                go_wp2_with fail
                go_roundw
                case rel =>
                  refine ⟨k + 1, by omega, by simp, ⟨_, _, _, rfl⟩, ⟨_, _, _, rfl⟩, Lib.hid (HFIN.out _ ?_ (HK12.out.set 16 (.int .u64 2400)))⟩
                  rw [HEL.out, hmx]
                  exact (HL12.out.put (L' := { setSp { L with r := g.r } i { L.sp i with timeout := g.t } with r := { g.r with began := now + 1, window := 2400, limit := 2400 } }) 16 (.int .u64 2400) rfl (fun _ _ => rfl)).as_ rfl (fun _ _ => rfl)
                case measure => simp [intOf]; omega
              · have hmx : mx (g.r.window / 2) 2400 = g.r.window / 2 := by unfold mx; rw [if_neg hm]
                have m4 : w11.cell? ⟨q, 16, none⟩ = some (.int .u64 g.r.limit) := m4
                have z4 := HL11.out.fz 16
                go_wp2_with fail
                go_roundw
                case rel =>
                  refine ⟨k + 1, by omega, by simp, ⟨_, _, _, rfl⟩, ⟨_, _, _, rfl⟩, Lib.hid (HFIN.out _ ?_ (HK11.out.set 16 (.int .u64 (g.r.window / 2))))⟩
                  rw [HEL.out, hmx]
                  exact (HL11.out.put (L' := { setSp { L with r := g.r } i { L.sp i with timeout := g.t } with r := { g.r with began := now + 1, window := g.r.window / 2, limit := g.r.window / 2 } }) 16 (.int .u64 (g.r.window / 2)) rfl (fun _ _ => rfl)).as_ rfl (fun _ _ => rfl)
                case measure => simp [intOf]; omega
            · have hdc : decide (x.time + 1 > g.r.began) = false := by simp; omega
              have el : lessR x now g.r = { g.r with flight := g.r.flight - x.size } := by unfold lessR; rw [if_neg hC]
              have HEL := Lib.hid el
              clear el
              go_quiet (fail)
              go_wp2_with fail
              go_roundw
              case rel =>
                refine ⟨k + 1, by omega, by simp, ⟨_, _, _, rfl⟩, ⟨_, _, _, rfl⟩, Lib.hid (HFIN.out _ ?_ ((Kp.refl q w8).drewN nq))⟩
                rw [HEL.out]
                exact (HL8.out.drewN nq).as_ rfl (fun _ _ => rfl)
              case measure => simp [intOf]; omega
        · have hd2 : decide (x.pn + 3 < ac) = false := by simp; omega
          have hd3 : decide (x.time + pt ≤ now) = false := by simp; omega
          have e : gstep ac now g x = { g with stay := g.stay ++ [x], t := if g.t = 0 ∨ x.time + pt < g.t then x.time + pt else g.t } := by unfold gstep; rw [if_neg (by omega), HPT.out, if_neg hB]
          have HE := Lib.hid (HST.out.trans e)
          clear e
          go_quiet (fail)
          have HGS4 := Lib.hid (HGS3.out.drewN nq)
          clear q0 q1 q2 q3 q4 c0 c1 c2 c3 HGS3
          generalize w3.drewN nq = w4 at HGS4 ⊢
          obtain ⟨q0, q1, q2, q3, q4⟩ := HGS4.out.box
          have hsz4 := Nat.lt_of_le_of_lt HGS4.out.hb (blk_lt HGS4.out.blk)
          go_upto_region 20 with (first
          | ((with_reducible refine gate_builtin (b := .append) (xs := #[.tmp 106, .tmp 108]) rfl ?_); refine appE (w0 := w4) w.heap.size rfl (.tmp 106) (.tmp 108) rfl (q := x) HGS4.out.stay rfl rfl (Below.refl _ _) (by omega) (by omega) ?_; intro v8 w8 R8 B8 G8 N8))
          obtain ⟨L8, R8l, A8, K8⟩ := HGS4.out.more_stay HOW.out R8 B8 G8 N8
          clear q0 q1 q2 q3 q4 G8 N8 B8
          obtain ⟨A8a, c8a, e8a, -⟩ := RE_slice R8
          subst e8a
          obtain ⟨-, -, -, d3⟩ := L8.ways i hi
          have f3 := L8.fz (i * 4 + 3)
          rw [setSp_same] at d3
          simp only [] at d3
          have HL8 := Lib.hid L8
          have HR8 := Lib.hid R8
          have HR8l := Lib.hid R8l
          have HA8 := Lib.hid A8
          have HK8 := Lib.hid K8
          have HP2 := HP.out
          have FIN : ∀ W t, (if g.t = 0 ∨ x.time + pt < g.t then x.time + pt else g.t) = t → RL W q base (setSp { L with r := g.r } i { L.sp i with timeout := t }) v → Kp q w8 W → RI w W q base i L v now (k + 1) (.slice Al nl cl) (.slice A8a (g.stay ++ [x]).length c8a) := by
            intro W t ht hW hK
            subst ht
            refine ⟨?_, ?_, ?_, HA8.out, HK8.out.trans hK⟩
            · rw [HLL.out, HAC.out, HE.out]; exact hW
            · rw [HLL.out, HAC.out, HE.out]; exact RE_kp HR8l.out hK HP2
            · rw [HLL.out, HAC.out, HE.out]; exact RE_kp HR8.out hK HP2
          have HFIN := Lib.hid FIN
          clear FIN L8 R8 R8l A8 K8
          have SETT : RL (w8.setCell ⟨q, i * 4 + 3, none⟩ (.int .u64 (x.time + pt))) q base (setSp { L with r := g.r } i { L.sp i with timeout := x.time + pt }) v := by
            have h1 := HL8.out.timeout i hi (x.time + pt)
            rw [setSp_setSp, setSp_same] at h1
            exact h1
          have HSET := Lib.hid SETT
          clear SETT
          by_cases hz : g.t = 0
          · have hzd : (g.t == 0) = true := by simp [hz]
            have hzz := Lib.hid hz
            clear hz
            go_wp2_with fail
            go_roundw
            case rel => exact ⟨k + 1, by omega, by simp, ⟨_, _, _, rfl⟩, ⟨_, _, _, rfl⟩, Lib.hid (HFIN.out _ _ (by rw [if_pos (.inl hzz.out)]) HSET.out ((Kp.refl q w8).set (i * 4 + 3) (.int .u64 (x.time + pt))))⟩
            case measure => simp [intOf]; omega
          · have hzd : (g.t == 0) = false := by simp [hz]
            have hzz := Lib.hid hz
            clear hz
            by_cases hz2 : x.time + pt < g.t
            · go_wp2_with fail
              go_roundw
              case rel => exact ⟨k + 1, by omega, by simp, ⟨_, _, _, rfl⟩, ⟨_, _, _, rfl⟩, Lib.hid (HFIN.out _ _ (by rw [if_pos (.inr hz2)]) HSET.out ((Kp.refl q w8).set (i * 4 + 3) (.int .u64 (x.time + pt))))⟩
              case measure => simp [intOf]; omega
            · go_wp2_with fail
              go_roundw
              case rel => exact ⟨k + 1, by omega, by simp, ⟨_, _, _, rfl⟩, ⟨_, _, _, rfl⟩, Lib.hid (HFIN.out _ _ (by rw [if_neg (by have := hzz.out; omega)]) HL8.out (Kp.refl q w8))⟩
              case measure => simp [intOf]; omega
    · have ek : l.take k = l := List.take_of_length_le (by omega)
      obtain ⟨ld, rl, rs, ap, kp⟩ := HI.out
      rw [HLL.out, HAC.out, ek] at ld rl rs
      obtain ⟨z0, -, -, -⟩ := ld.ways i hi
      rw [HEV.out] at z0
      have hlen : l.length = k := by omega
      have y0 := ld.fz (i * 4)
      have HLD := Lib.hid ld
      have HRL := Lib.hid rl
      have HRS := Lib.hid rs
      have HKP := Lib.hid kp
      clear ld rl rs ap kp HI
      go_wp2_with fail
      go_ret
      have hbs : ∀ b, (Value.slice As ns cs).ownBlock = some b → w.heap.size ≤ b := fun b hb => (RE_bound HRS.out b hb).1
      have hp := HP.out
      have ego : goneO i now L = (goneG ac now l L.r).lost := by unfold goneO; rw [HLL.out, HAC.out]
      rw [ego]
      refine ⟨_, rfl, _, ?_, RE_kp HRL.out ((Kp.refl q wr).set (i * 4) (.slice As ns cs)) hp, hbs, HKP.out.set _ _⟩
      have L9 := HLD.out.lay i hi (.slice As ns cs) (goneG ac now l L.r).stay (Kd.R_lower HRS.out (Nat.le_trans HH.out.hp (Nat.le_of_lt hp))) (fun e => by have := hbs q e; omega)
      rw [setSp_setSp, setSp_same] at L9
      unfold goneL
      rw [HLL.out, HAC.out]
      exact L9
end Go.Proofs.Ytgdboikoejodpaa.RefLost
