/- gone: the walk. -/
import Derived.Test.YtgdboikoejodpaaGoneP
import Derived.Deep.RegionWith
import Derived.Deep.Cut
namespace Go.Proofs.Ytgdboikoejodpaa.Gone
open Go Go.RowKit Go.Proofs.YtgdboikoejodpaaW.PrintWords Go.Proofs.YtgdboikoejodpaaW.PrintLast Go.Proofs.YtgdboikoejodpaaW.PrintMore Go.Proofs.Ytgdboikoejodpaa.Keep Go.Proofs.Ytgdboikoejodpaa.Led Go.Proofs.Ytgdboikoejodpaa.Rate Go.Proofs.Ytgdboikoejodpaa.Rd Go.Proofs.Ytgdboikoejodpaa.Timer Go.Proofs.Ytgdboikoejodpaa.LedSp Go.Proofs.Ytgdboikoejodpaa.Drop Go.Proofs.Ytgdboikoejodpaa.In Go.Proofs.Ytgdboikoejodpaa.Split Go.Proofs.Ytgdboikoejodpaa.GoneP
attribute [local go_sem] max2_int min2_int max_two min_two max_three min_three max_four min_four
set_option linter.unusedVariables false

/-- What holds at the head of the loop. -/
structure GI (w wr : World) (p base i : Nat) (L : Lg) (v : Nat → Value) (now : Int) (k : Nat) (vl vs : Value) : Prop where
  led : Led wr p base (setSp { L with r := (goneG (L.sp i).acked now ((L.sp i).list.take k) L.r).r } i { L.sp i with timeout := (goneG (L.sp i).acked now ((L.sp i).list.take k) L.r).t }) v
  lost : RS wr w.heap.size vl (goneG (L.sp i).acked now ((L.sp i).list.take k) L.r).lost
  stay : RS wr w.heap.size vs (goneG (L.sp i).acked now ((L.sp i).list.take k) L.r).stay
  apart : ∀ b, vl.ownBlock = some b → vs.ownBlock ≠ some b
  kp : Kp p w wr

/-- What holds inside a round. -/
structure GS (w W : World) (p base : Nat) (Lc : Lg) (v : Nat → Value) (vl vs : Value) (lo st : List S) (b : Nat) (x : S) : Prop where
  led : Led W p base Lc v
  lost : RS W w.heap.size vl lo
  stay : RS W w.heap.size vs st
  apart : ∀ k, vl.ownBlock = some k → vs.ownBlock ≠ some k
  kp : Kp p w W
  blk : W.heap[b]? = some (sO x)
  bl : ∀ k, vl.ownBlock = some k → k < b
  bs : ∀ k, vs.ownBlock = some k → k < b
  hb : w.heap.size ≤ b
theorem RS_drewN {W : World} {base : Nat} {v : Value} {l : List S} (h : RS W base v l) (n : Nat) : RS (W.drewN n) base v l := RS_move h (fun _ _ => rfl)
theorem GS.drewN {w W : World} {p base : Nat} {Lc : Lg} {v : Nat → Value} {vl vs : Value} {lo st : List S} {b : Nat} {x : S} (h : GS w W p base Lc v vl vs lo st b x) (n : Nat) : GS w (W.drewN n) p base Lc v vl vs lo st b x :=
  ⟨led_drewN h.led n, RS_drewN h.lost n, RS_drewN h.stay n, h.apart, h.kp.drewN n, h.blk, h.bl, h.bs, h.hb⟩
/-- Behind an append to what stays. -/
theorem GS.more_stay {w W W' : World} {p base : Nat} {Lc : Lg} {v : Nat → Value} {vl vs v1 : Value} {lo st st' : List S} {b : Nat} {x : S} (h : GS w W p base Lc v vl vs lo st b x) (hp : p < w.heap.size) (ho : ∀ k, own p v k → k < w.heap.size) (hr : RS W' w.heap.size v1 st') (hB : Below w.heap.size W W') (hG : W.grownBy W' vs.ownBlock) (hN : v1.ownBlock = vs.ownBlock ∨ ∃ b, v1.ownBlock = some b ∧ W.heap.size ≤ b) :
    Led W' p base Lc v ∧ RS W' w.heap.size vl lo ∧ (∀ k, vl.ownBlock = some k → v1.ownBlock ≠ some k) ∧ Kp p w W' := by
  refine ⟨h.led.stays (fun k hk => hB.block k (ho k hk)), RS_grown h.lost hG (fun k hk e => h.apart k hk e), fun k hk e => ?_, ⟨hB.os.trans h.kp.os, hB.tape.trans h.kp.tape, hB.output.trans h.kp.output, Nat.le_trans h.kp.size hB.size, fun k hk hn => (hB.block k hk).trans (h.kp.block k hk hn)⟩⟩
  · rcases hN with h1 | ⟨b', h1, h2⟩
    · exact h.apart k hk (h1 ▸ e)
    · rw [h1] at e; injection e with e
      have := (RS_bound h.lost k hk).2
      omega
/-- Behind an append to what is lost. -/
theorem GS.more_lost {w W W' : World} {p base : Nat} {Lc : Lg} {v : Nat → Value} {vl vs v1 : Value} {lo st lo' : List S} {b : Nat} {x : S} (h : GS w W p base Lc v vl vs lo st b x) (ho : ∀ k, own p v k → k < w.heap.size) (hr : RS W' w.heap.size v1 lo') (hB : Below w.heap.size W W') (hG : W.grownBy W' vl.ownBlock) (hN : v1.ownBlock = vl.ownBlock ∨ ∃ b, v1.ownBlock = some b ∧ W.heap.size ≤ b) :
    Led W' p base Lc v ∧ RS W' w.heap.size vs st ∧ (∀ k, v1.ownBlock = some k → vs.ownBlock ≠ some k) ∧ Kp p w W' ∧ W'.heap[b]? = some (sO x) := by
  refine ⟨h.led.stays (fun k hk => hB.block k (ho k hk)), RS_grown h.stay hG (fun k hk e => h.apart k e hk), fun k hk e => ?_, ⟨hB.os.trans h.kp.os, hB.tape.trans h.kp.tape, hB.output.trans h.kp.output, Nat.le_trans h.kp.size hB.size, fun k hk hn => (hB.block k hk).trans (h.kp.block k hk hn)⟩, ?_⟩
  · rcases hN with h1 | ⟨b', h1, h2⟩
    · exact h.apart k (h1 ▸ hk) e
    · rw [h1] at hk; injection hk with hk
      have := (RS_bound h.stay k e).2
      omega
  · exact (hG.block b (blk_lt h.blk) (fun e => absurd (h.bl b e.symm) (by omega))).trans h.blk

set_option maxHeartbeats 4000000 in
set_option maxRecDepth 100000 in
theorem gone_calls {w : World} {p base : Nat} {L : Lg} {v : Nat → Value} (h : Led w p base L v) (hb : LgB L) (i : Nat) (hi : i < 3) (hf : sumS (L.sp i).list ≤ L.r.flight) (now : Int) (hn : 0 ≤ now ∧ now ≤ 1099511627776) :
    Calls Try.prog 38 #[.pointer (some ⟨p, 0, none⟩), .pointer (some ⟨p, 7 + i * 4, none⟩), .int .u64 now] w fun e w' => ∃ vl vs, e = .returned vl ∧ Led w' p base (goneL i now L) (setV v i vs) ∧ RS w' w.heap.size vl (goneO i now L) ∧ (∀ b, vl.ownBlock = some b → vs.ownBlock ≠ some b) ∧ (∀ b, vs.ownBlock = some b → w.heap.size ≤ b) ∧ Kp p w w' := by
  obtain ⟨A, c, ev, hC⟩ := row_slice (h.row i hi)
  obtain ⟨l, hl⟩ : ∃ l, (L.sp i).list = l := ⟨_, rfl⟩
  obtain ⟨ac, hac⟩ : ∃ ac, (L.sp i).acked = ac := ⟨_, rfl⟩
  have hL0 := putTimeout h i hi 0
  have hlb : ∀ x ∈ l, pk x := hl ▸ hb.list i hi
  have hlm : l.length ≤ 1024 := hl ▸ hb.many i hi
  have hab : 0 ≤ ac ∧ ac ≤ 4611686018427387904 := hac ▸ hb.acked i hi
  rw [hl] at hC hf ev
  have HGB := Lib.hid (goneG_b ac now hn l L.r hb.r hlb hf)
  obtain ⟨-, -, -, z3⟩ := sp_cells h i hi
  have y3 := sp_frozen h (7 + i * 4 + 3)
  obtain ⟨k0, -, -, -⟩ := sp_cells hL0 i hi
  have K0 := (Kp.refl p w).set (7 + i * 4 + 3) (.int .u64 0)
  have HROW : Hid (∀ W : World, (∀ k, (v i).ownBlock = some k → W.heap[k]? = w.heap[k]?) → Kd.C kS W A l.length l) := Lib.hid (fun W hW => row_slice' (c := c) (by have := RS_move (h.row i hi) hW; rw [ev, hl] at this; exact this))
  have HOW : Hid (∀ k, own p v k → k < w.heap.size) := Lib.hid (fun k hk => (h.own_base k hk).2)
  have HP := Lib.hid (blk_lt h.blk)
  have HNE := Lib.hid (h.row_ne i hi)
  have HRB := Lib.hid (fun k hk => (RS_bound (h.row i hi) k hk).2)
  have HL0 := Lib.hid hL0
  have HK0 := Lib.hid K0
  have HLB := Lib.hid hlb
  have HLL := Lib.hid hl
  have HAC := Lib.hid hac
  have HH := Lib.hid h
  have HEV := Lib.hid ev
  have HFF := Lib.hid hf
  rw [ev] at k0
  obtain ⟨n0, n1⟩ := hn
  clear h hb hL0 K0 hC hlb hl hac ev hf
  go_enter Try.func38, Try.ntmps38
  go_upto_region 3 with fail
  generalize w.setCell ⟨p, 7 + i * 4 + 3, none⟩ (.int .u64 0) = w0 at HL0 HK0 k0 ⊢
  clear z3 y3
  go_wp2_with fail
  clear k0
  go_loopw [7, 8, 20] (fun vl vs j wr => ∃ k : Nat, k ≤ l.length ∧ j = .int .i64 (k : Int) ∧ Hid (GI w wr p base i L v now k vl vs)) (fun _ _ j _ => l.length - (intOf j).toNat)
  case atStart =>
    refine ⟨0, by omega, rfl, Lib.hid ⟨?_, Kd.R_nil _ _ _ _ _, Kd.R_nil _ _ _ _ _, fun _ h => (nomatch h), HK0.out⟩⟩
    exact HL0.out
  case round =>
    obtain ⟨k, hk, rfl, HI⟩ := hrel
    by_cases hkl : k < l.length
    · have hkk := HI.out.kp
      have hXr := HROW.out wr (fun b hb => hkk.block b (HRB.out b hb) (fun e => HNE.out (by rw [hb, e])))
      obtain ⟨A', eA, j0, j1, j2, j3, j4⟩ := at_S hXr k hkl
      subst eA
      obtain ⟨g, hg⟩ : ∃ g, goneG ac now (l.take k) L.r = g := ⟨_, rfl⟩
      have hgb := HGB.out k hk
      rw [hg] at hgb
      have hstep := goneG_take ac now l L.r k hkl
      rw [hg] at hstep
      have hx := HLB.out _ (rdS_mem hkl)
      obtain ⟨x, hxe⟩ : ∃ x, rdS l (k : Int) = x := ⟨_, rfl⟩
      rw [hxe] at j0 j1 j2 j3 j4 hx hstep
      have hsx := sumS_take l k hkl
      rw [hxe] at hsx
      have hs2 := sumS_split l (k + 1)
      have hs3 := sumS_nonneg (l := l.drop (k + 1)) (fun x hx => (HLB.out x (List.mem_of_mem_drop hx)).2.2.2.2.1)
      have hs4 := sumS_nonneg (l := g.stay) (fun x hx => (HLB.out x (List.mem_of_mem_take (hgb.sp x hx))).2.2.2.2.1)
      have hfx : x.size ≤ g.r.flight := by have := hgb.f; have := hgb.s; have := HFF.out; omega
      obtain ⟨ld, rl, rs, ap, kp⟩ := HI.out
      rw [HLL.out, HAC.out, hg] at ld rl rs
      have B1 := (Below.refl wr.heap.size wr).alloc (Nat.le_refl _) (.cells #[.int .u64 x.pn, .int .u64 x.time, .int .u64 x.size, .bool x.asks, .slice x.fa x.fn x.fc] 30)
      have HK1 := Lib.hid (sent_cells (w := wr) x 30)
      have HLD := Lib.hid (ld.below B1)
      have HRL := Lib.hid (Kd.R_below rl B1)
      have HRS := Lib.hid (Kd.R_below rs B1)
      have HAP := Lib.hid ap
      have HKP := Lib.hid (kp.trans (Kp.of_below B1))
      have HGG := Lib.hid hgb
      have HST := Lib.hid hstep
      have HX := Lib.hid hx
      have HBL : Hid (∀ k, u7.ownBlock = some k → k < wr.heap.size) := Lib.hid (fun k hk => (RS_bound rl k hk).2)
      have HBS : Hid (∀ k, u8.ownBlock = some k → k < wr.heap.size) := Lib.hid (fun k hk => (RS_bound rs k hk).2)
      have HWZ := Lib.hid kp.size
      clear hXr hgb hstep hxe hsx hs2 hs3 hs4 ld rl rs ap kp B1 hkk hg HI
      go_upto_region 6 with fail
      generalize wr.alloc (.cells #[.int .u64 x.pn, .int .u64 x.time, .int .u64 x.size, .bool x.asks, .slice x.fa x.fn x.fc] 30) = w1 at HK1 HLD HRL HRS HKP ⊢
      clear j0 j1 j2 j3 j4
      have q0 := blk_cell HK1.out 0
      have q1 := blk_cell HK1.out 1
      have q2 := blk_cell HK1.out 2
      have q3 := blk_cell HK1.out 3
      have q4 := blk_cell HK1.out 4
      obtain ⟨c0, c1, c2, c3⟩ := sp_cells HLD.out i hi
      have hpb := pat_bound HGG.out.rb
      obtain ⟨t0, t1⟩ := HGG.out.tb
      obtain ⟨x1, x2, x3, x4, x5, x6⟩ := HX.out
      obtain ⟨pt, hpt⟩ : ∃ t, patR g.r = t := ⟨_, rfl⟩
      rw [hpt] at hpb
      obtain ⟨p0, p1⟩ := hpb
      have hwl : IntKind.u64.wrap (x.time + pt) = x.time + pt := by rw [IntKind.wrap_u64]; omega
      rw [setSp_same] at c1 c2 c3
      simp only [HAC.out] at c2
      have PC : ∀ n, Calls Try.prog 45 #[.pointer (some ⟨p, 0, none⟩)] (w1.drewN n) fun e w' => e = .returned (.int .u64 pt) ∧ ∃ m, w' = (w1.drewN n).drewN m := fun n => by
        have := pat_calls (led_drewN HLD.out n) HGG.out.rb
        rw [show patR (setSp { L with r := g.r } i { L.sp i with timeout := g.t }).r = pt from hpt] at this
        exact this
      have HPC := Lib.hid PC
      have HPT := Lib.hid hpt
      clear PC hpt
      have HGS : Hid (GS w w1 p base (setSp { L with r := g.r } i { L.sp i with timeout := g.t }) v u7 u8 g.lost g.stay wr.heap.size x) :=
        Lib.hid ⟨HLD.out, HRL.out, HRS.out, HAP.out, HKP.out, HK1.out, HBL.out, HBS.out, HWZ.out⟩
      go_quiet ((go_at_call 45; exact Calls.quiet_of (HPC.out _)))
      have HGS3 := Lib.hid (HGS.out.drewN nq)
      generalize w1.drewN nq = w3 at HGS3 ⊢
      clear q0 q1 q2 q3 q4 c0 c1 c2 c3 HGS HLD HRL HRS HAP HKP HK1 HPC HROW
      have q0 := blk_cell HGS3.out.blk 0
      have q1 := blk_cell HGS3.out.blk 1
      have q2 := blk_cell HGS3.out.blk 2
      have q3 := blk_cell HGS3.out.blk 3
      have q4 := blk_cell HGS3.out.blk 4
      obtain ⟨c0, c1, c2, c3⟩ := sp_cells HGS3.out.led i hi
      rw [setSp_same] at c1 c2 c3
      simp only [HAC.out] at c2
      have hgl : g.lost.length ≤ 1024 := by have := HGG.out.n; rw [List.length_take] at this; omega
      have hgs : g.stay.length ≤ 1024 := by have := HGG.out.n; rw [List.length_take] at this; omega
      by_cases hA : ac ≤ x.pn
      · have e : gstep ac now g x = { g with stay := g.stay ++ [x] } := by unfold gstep; rw [if_pos hA]
        have HE := Lib.hid (HST.out.trans e)
        clear e
        go_wp2_with fail
        go_quiet (fail)
        have HGS4 := Lib.hid (HGS3.out.drewN nq)
        clear c0 c1 c2 c3
        have hsz4 := Nat.lt_of_le_of_lt HGS3.out.hb (blk_lt HGS4.out.blk)
        go_wp2_with (first
          | ((with_reducible refine gate_builtin (b := .append) (xs := #[.tmp 60, .tmp 62]) rfl ?_); refine appS (w0 := (w3.drewN nq)) w.heap.size rfl (.tmp 60) (.tmp 62) rfl (q := x) HGS4.out.stay rfl rfl (Below.refl _ _) (by omega) (by omega) ?_; intro v8 w8 R8 B8 G8 N8))
        obtain ⟨L8, R8l, A8, K8⟩ := HGS4.out.more_stay HP.out HOW.out R8 B8 G8 N8
        go_roundw
        case rel =>
          refine ⟨k + 1, by omega, by simp, Lib.hid ⟨?_, ?_, ?_, A8, K8⟩⟩
          · rw [HLL.out, HAC.out, HE.out]; exact L8
          · rw [HLL.out, HAC.out, HE.out]; exact R8l
          · rw [HLL.out, HAC.out, HE.out]; exact R8
        case measure => simp [intOf]; omega
      · by_cases hB : x.pn + 3 < ac ∨ x.time + pt ≤ now
        · have e : gstep ac now g x = { g with lost := g.lost ++ [x], r := lessR x now g.r } := by unfold gstep; rw [if_neg hA, HPT.out, if_pos hB]
          have HE := Lib.hid (HST.out.trans e)
          clear e
          have hwp : IntKind.u64.wrap (x.pn + 3) = x.pn + 3 := by rw [IntKind.wrap_u64]; omega
          have hd : (decide (x.pn + 3 < ac) = true) ∨ (decide (x.pn + 3 < ac) = false ∧ decide (x.time + pt ≤ now) = true) := by
            by_cases q : x.pn + 3 < ac
            · exact .inl (by simp [q])
            · exact .inr ⟨by simp [q], by simp; omega⟩
          rcases hd with hd | ⟨hd, hd2⟩
          · go_wp2_with fail
            go_quiet (fail)
            have HGS4 := Lib.hid (HGS3.out.drewN nq)
            generalize w3.drewN nq = w4 at HGS4 ⊢
            clear q0 q1 q2 q3 q4 c0 c1 c2 c3
            have q0 := blk_cell HGS4.out.blk 0
            have q1 := blk_cell HGS4.out.blk 1
            have q2 := blk_cell HGS4.out.blk 2
            have q3 := blk_cell HGS4.out.blk 3
            have q4 := blk_cell HGS4.out.blk 4
            obtain ⟨c0, c1, c2, c3⟩ := sp_cells HGS4.out.led i hi
            rw [setSp_same] at c1 c2 c3
            simp only [HAC.out] at c2
            go_wp2_with fail
            go_quiet (fail)
            have HGS5 := Lib.hid (HGS4.out.drewN nq)
            generalize w4.drewN nq = w5 at HGS5 ⊢
            clear q0 q1 q2 q3 q4 c0 c1 c2 c3
            have q0 := blk_cell HGS5.out.blk 0
            have q1 := blk_cell HGS5.out.blk 1
            have q2 := blk_cell HGS5.out.blk 2
            have q3 := blk_cell HGS5.out.blk 3
            have q4 := blk_cell HGS5.out.blk 4
            obtain ⟨c0, c1, c2, c3⟩ := sp_cells HGS5.out.led i hi
            rw [setSp_same] at c1 c2 c3
            simp only [HAC.out] at c2
            clear c0 c1 c2 c3 HGS3 HGS4
            have hsz5 := Nat.lt_of_le_of_lt HGS5.out.hb (blk_lt HGS5.out.blk)
            go_wp2_with (first
              | ((with_reducible refine gate_builtin (b := .append) (xs := #[.tmp 78, .tmp 80]) rfl ?_); refine appS (w0 := w5) w.heap.size rfl (.tmp 78) (.tmp 80) rfl (q := x) HGS5.out.lost rfl rfl (Below.refl _ _) (by omega) (by omega) ?_; intro v8 w8 R8 B8 G8 N8))
            obtain ⟨L8, R8s, A8, K8, hb8⟩ := HGS5.out.more_lost HOW.out R8 B8 G8 N8
            clear q0 q1 q2 q3 q4 G8 N8
            have q0 := blk_cell hb8 0
            have q1 := blk_cell hb8 1
            have q2 := blk_cell hb8 2
            have q3 := blk_cell hb8 3
            have q4 := blk_cell hb8 4
            have LS := fun n => less_calls (led_drewN L8 n) HGG.out.rb x ⟨x5, x6⟩ ⟨x3, x4⟩ hfx now ⟨n0, n1⟩
            have HLS := Lib.hid LS
            have HR8 := Lib.hid R8
            have HR8s := Lib.hid R8s
            have HA8 := Lib.hid A8
            have HK8 := Lib.hid K8
            clear LS R8 R8s A8 K8 hb8 L8 B8
            go_region_with (go_at_call 46; refine (HLS.out _).mono ?_; rintro e w9 ⟨rfl, L9, K9⟩)
            obtain ⟨A5, c5, e5, -⟩ := row_slice HR8.out
            subst e5
            have R9 : RS w9 w.heap.size _ _ := RS_move HR8.out (fun b hb => K9.block b (RS_bound HR8.out b hb).2 (fun e => by have := (RS_bound HR8.out b hb).1; have := HP.out; omega))
            have R9s : RS w9 w.heap.size _ _ := RS_move HR8s.out (fun b hb => K9.block b (RS_bound HR8s.out b hb).2 (fun e => by have := (RS_bound HR8s.out b hb).1; have := HP.out; omega))
            have K99 := HK8.out.trans ⟨K9.os, K9.tape, K9.output, K9.size, K9.block⟩
            have HL9 := Lib.hid L9
            have HR9 := Lib.hid R9
            have HR9s := Lib.hid R9s
            have HK9 := Lib.hid K99
            clear L9 R9 R9s K99 K9 q0 q1 q2 q3 q4
            go_wp2_with fail
            go_roundw
            case rel =>
              refine ⟨k + 1, by omega, by simp, Lib.hid ⟨?_, ?_, ?_, HA8.out, HK9.out⟩⟩
              · rw [HLL.out, HAC.out, HE.out]; exact HL9.out
              · rw [HLL.out, HAC.out, HE.out]; exact HR9.out
              · rw [HLL.out, HAC.out, HE.out]; exact HR9s.out
            case measure => simp [intOf]; omega
          · go_wp2_with fail
            go_quiet (fail)
            have HGS4 := Lib.hid (HGS3.out.drewN nq)
            generalize w3.drewN nq = w4 at HGS4 ⊢
            clear q0 q1 q2 q3 q4 c0 c1 c2 c3
            have q0 := blk_cell HGS4.out.blk 0
            have q1 := blk_cell HGS4.out.blk 1
            have q2 := blk_cell HGS4.out.blk 2
            have q3 := blk_cell HGS4.out.blk 3
            have q4 := blk_cell HGS4.out.blk 4
            obtain ⟨c0, c1, c2, c3⟩ := sp_cells HGS4.out.led i hi
            rw [setSp_same] at c1 c2 c3
            simp only [HAC.out] at c2
            go_wp2_with fail
            go_quiet (fail)
            have HGS5 := Lib.hid (HGS4.out.drewN nq)
            generalize w4.drewN nq = w5 at HGS5 ⊢
            clear q0 q1 q2 q3 q4 c0 c1 c2 c3
            have q0 := blk_cell HGS5.out.blk 0
            have q1 := blk_cell HGS5.out.blk 1
            have q2 := blk_cell HGS5.out.blk 2
            have q3 := blk_cell HGS5.out.blk 3
            have q4 := blk_cell HGS5.out.blk 4
            obtain ⟨c0, c1, c2, c3⟩ := sp_cells HGS5.out.led i hi
            rw [setSp_same] at c1 c2 c3
            simp only [HAC.out] at c2
            clear c0 c1 c2 c3 HGS3 HGS4
            have hsz5 := Nat.lt_of_le_of_lt HGS5.out.hb (blk_lt HGS5.out.blk)
            go_wp2_with (first
              | ((with_reducible refine gate_builtin (b := .append) (xs := #[.tmp 78, .tmp 80]) rfl ?_); refine appS (w0 := w5) w.heap.size rfl (.tmp 78) (.tmp 80) rfl (q := x) HGS5.out.lost rfl rfl (Below.refl _ _) (by omega) (by omega) ?_; intro v8 w8 R8 B8 G8 N8))
            obtain ⟨L8, R8s, A8, K8, hb8⟩ := HGS5.out.more_lost HOW.out R8 B8 G8 N8
            clear q0 q1 q2 q3 q4 G8 N8
            have q0 := blk_cell hb8 0
            have q1 := blk_cell hb8 1
            have q2 := blk_cell hb8 2
            have q3 := blk_cell hb8 3
            have q4 := blk_cell hb8 4
            have LS := fun n => less_calls (led_drewN L8 n) HGG.out.rb x ⟨x5, x6⟩ ⟨x3, x4⟩ hfx now ⟨n0, n1⟩
            have HLS := Lib.hid LS
            have HR8 := Lib.hid R8
            have HR8s := Lib.hid R8s
            have HA8 := Lib.hid A8
            have HK8 := Lib.hid K8
            clear LS R8 R8s A8 K8 hb8 L8 B8
            go_region_with (go_at_call 46; refine (HLS.out _).mono ?_; rintro e w9 ⟨rfl, L9, K9⟩)
            obtain ⟨A5, c5, e5, -⟩ := row_slice HR8.out
            subst e5
            have R9 : RS w9 w.heap.size _ _ := RS_move HR8.out (fun b hb => K9.block b (RS_bound HR8.out b hb).2 (fun e => by have := (RS_bound HR8.out b hb).1; have := HP.out; omega))
            have R9s : RS w9 w.heap.size _ _ := RS_move HR8s.out (fun b hb => K9.block b (RS_bound HR8s.out b hb).2 (fun e => by have := (RS_bound HR8s.out b hb).1; have := HP.out; omega))
            have K99 := HK8.out.trans ⟨K9.os, K9.tape, K9.output, K9.size, K9.block⟩
            have HL9 := Lib.hid L9
            have HR9 := Lib.hid R9
            have HR9s := Lib.hid R9s
            have HK9 := Lib.hid K99
            clear L9 R9 R9s K99 K9 q0 q1 q2 q3 q4
            go_wp2_with fail
            go_roundw
            case rel =>
              refine ⟨k + 1, by omega, by simp, Lib.hid ⟨?_, ?_, ?_, HA8.out, HK9.out⟩⟩
              · rw [HLL.out, HAC.out, HE.out]; exact HL9.out
              · rw [HLL.out, HAC.out, HE.out]; exact HR9.out
              · rw [HLL.out, HAC.out, HE.out]; exact HR9s.out
            case measure => simp [intOf]; omega
        · have hd : decide (x.pn + 3 < ac) = false := by simp; omega
          have hd2 : decide (x.time + pt ≤ now) = false := by simp; omega
          have hwp : IntKind.u64.wrap (x.pn + 3) = x.pn + 3 := by rw [IntKind.wrap_u64]; omega
          have e : gstep ac now g x = { g with stay := g.stay ++ [x], t := if g.t = 0 ∨ x.time + pt < g.t then x.time + pt else g.t } := by unfold gstep; rw [if_neg hA, HPT.out, if_neg hB]
          have HE := Lib.hid (HST.out.trans e)
          clear e
          go_wp2_with fail
          go_quiet (fail)
          have HGS4 := Lib.hid (HGS3.out.drewN nq)
          generalize w3.drewN nq = w4 at HGS4 ⊢
          clear q0 q1 q2 q3 q4 c0 c1 c2 c3
          have q0 := blk_cell HGS4.out.blk 0
          have q1 := blk_cell HGS4.out.blk 1
          have q2 := blk_cell HGS4.out.blk 2
          have q3 := blk_cell HGS4.out.blk 3
          have q4 := blk_cell HGS4.out.blk 4
          obtain ⟨c0, c1, c2, c3⟩ := sp_cells HGS4.out.led i hi
          rw [setSp_same] at c1 c2 c3
          simp only [HAC.out] at c2
          go_wp2_with fail
          go_quiet (fail)
          have HGS5 := Lib.hid (HGS4.out.drewN nq)
          generalize w4.drewN nq = w5 at HGS5 ⊢
          clear q0 q1 q2 q3 q4 c0 c1 c2 c3
          have q0 := blk_cell HGS5.out.blk 0
          have q1 := blk_cell HGS5.out.blk 1
          have q2 := blk_cell HGS5.out.blk 2
          have q3 := blk_cell HGS5.out.blk 3
          have q4 := blk_cell HGS5.out.blk 4
          obtain ⟨c0, c1, c2, c3⟩ := sp_cells HGS5.out.led i hi
          rw [setSp_same] at c1 c2 c3
          simp only [HAC.out] at c2
          clear c0 c1 c2 c3 HGS3 HGS4
          have hsz5 := Nat.lt_of_le_of_lt HGS5.out.hb (blk_lt HGS5.out.blk)
          go_upto_region 8 with (first
            | ((with_reducible refine gate_builtin (b := .append) (xs := #[.tmp 31, .tmp 33]) rfl ?_); refine appS (w0 := w5) w.heap.size rfl (.tmp 31) (.tmp 33) rfl (q := x) HGS5.out.stay rfl rfl (Below.refl _ _) (by omega) (by omega) ?_; intro v8 w8 R8 B8 G8 N8))
          obtain ⟨L8, R8l, A8, K8⟩ := HGS5.out.more_stay HP.out HOW.out R8 B8 G8 N8
          clear q0 q1 q2 q3 q4 G8 N8 B8
          obtain ⟨-, -, -, d3⟩ := sp_cells L8 i hi
          have f3 := sp_frozen L8 (7 + i * 4 + 3)
          rw [setSp_same] at d3
          simp only [] at d3
          have HL8 := Lib.hid L8
          have HR8 := Lib.hid R8
          have HR8l := Lib.hid R8l
          have HA8 := Lib.hid A8
          have HK8 := Lib.hid K8
          clear L8 R8 R8l A8 K8
          by_cases hz : g.t = 0
          · have hzd : (g.t == 0) = true := by simp [hz]
            have e : (if g.t = 0 ∨ x.time + pt < g.t then x.time + pt else g.t) = x.time + pt := by rw [if_pos (.inl hz)]
            rw [e] at HE
            have HZ := Lib.hid hz
            clear e hz
            go_wp2_with fail
            go_roundw
            case rel =>
              have L9 := putTimeout HL8.out i hi (x.time + pt)
              rw [setSp_setSp, setSp_same] at L9
              have far : ∀ b, w.heap.size ≤ b → (w8.setCell ⟨p, 7 + i * 4 + 3, none⟩ (.int .u64 (x.time + pt))).heap[b]? = w8.heap[b]? := fun b hb => Below.heap_setCell w8 ⟨p, 7 + i * 4 + 3, none⟩ _ b (fun e => by have := HP.out; simp only at e; omega)
              refine ⟨k + 1, by omega, by simp, Lib.hid ⟨?_, ?_, ?_, HA8.out, HK8.out.set _ _⟩⟩
              · rw [HLL.out, HAC.out, HE.out]; exact L9
              · rw [HLL.out, HAC.out, HE.out]; exact RS_move HR8l.out (fun b hb => far b (RS_bound HR8l.out b hb).1)
              · rw [HLL.out, HAC.out, HE.out]; exact RS_move HR8.out (fun b hb => far b (RS_bound HR8.out b hb).1)
            case measure => simp [intOf]; omega
          · by_cases hz2 : x.time + pt < g.t
            · have hzd : (g.t == 0) = false := by simp [hz]
              have e : (if g.t = 0 ∨ x.time + pt < g.t then x.time + pt else g.t) = x.time + pt := by rw [if_pos (.inr hz2)]
              rw [e] at HE
              have HZ := Lib.hid hz
              clear e hz
              go_wp2_with fail
              go_roundw
              case rel =>
                have L9 := putTimeout HL8.out i hi (x.time + pt)
                rw [setSp_setSp, setSp_same] at L9
                have far : ∀ b, w.heap.size ≤ b → (w8.setCell ⟨p, 7 + i * 4 + 3, none⟩ (.int .u64 (x.time + pt))).heap[b]? = w8.heap[b]? := fun b hb => Below.heap_setCell w8 ⟨p, 7 + i * 4 + 3, none⟩ _ b (fun e => by have := HP.out; simp only at e; omega)
                refine ⟨k + 1, by omega, by simp, Lib.hid ⟨?_, ?_, ?_, HA8.out, HK8.out.set _ _⟩⟩
                · rw [HLL.out, HAC.out, HE.out]; exact L9
                · rw [HLL.out, HAC.out, HE.out]; exact RS_move HR8l.out (fun b hb => far b (RS_bound HR8l.out b hb).1)
                · rw [HLL.out, HAC.out, HE.out]; exact RS_move HR8.out (fun b hb => far b (RS_bound HR8.out b hb).1)
              case measure => simp [intOf]; omega
            · have hzd : (g.t == 0) = false := by simp [hz]
              have e : (if g.t = 0 ∨ x.time + pt < g.t then x.time + pt else g.t) = g.t := by rw [if_neg (by omega)]
              rw [e] at HE
              have HZ := Lib.hid hz
              clear e hz
              go_wp2_with fail
              go_roundw
              case rel =>
                refine ⟨k + 1, by omega, by simp, Lib.hid ⟨?_, ?_, ?_, HA8.out, HK8.out⟩⟩
                · rw [HLL.out, HAC.out, HE.out]; exact HL8.out
                · rw [HLL.out, HAC.out, HE.out]; exact HR8l.out
                · rw [HLL.out, HAC.out, HE.out]; exact HR8.out
              case measure => simp [intOf]; omega
    · have ek : l.take k = l := List.take_of_length_le (by omega)
      obtain ⟨ld, rl, rs, ap, kp⟩ := HI.out
      rw [HLL.out, HAC.out, ek] at ld rl rs
      obtain ⟨z0, -, -, -⟩ := sp_cells ld i hi
      have y0 := sp_frozen ld (7 + i * 4)
      have HLD := Lib.hid ld
      have HRL := Lib.hid rl
      have HRS := Lib.hid rs
      have HAP := Lib.hid ap
      have HKP := Lib.hid kp
      clear ld rl rs ap kp HI
      obtain ⟨A9, c9, e9, -⟩ := row_slice HRS.out
      subst e9
      go_wp2_with fail
      go_ret
      have hbs : ∀ b, (Value.slice A9 (goneG ac now l L.r).stay.length c9).ownBlock = some b → w.heap.size ≤ b := fun b hb => (RS_bound HRS.out b hb).1
      have hp := HP.out
      have ego : goneO i now L = (goneG ac now l L.r).lost := by unfold goneO; rw [HLL.out, HAC.out]
      rw [ego]
      refine ⟨u7, rfl, _, ?_, RS_move HRL.out (fun b hb => ?_), HAP.out, hbs, HKP.out.set _ _⟩
      · have L9 := layList HLD.out i hi _ _ (Kd.R_lower HRS.out (Nat.le_trans HH.out.hp (Nat.le_of_lt hp))) (fun e => by have := hbs p e; omega) (fun k hk hki b hb e => by have h1 := hbs b hb; have h2 := HOW.out b (.inr ⟨k, hk, e⟩); omega)
        rw [setSp_setSp, setSp_same] at L9
        unfold goneL
        rw [HLL.out, HAC.out]
        exact L9
      · exact Below.heap_setCell wr ⟨p, 7 + i * 4, none⟩ _ b (fun e => by have := (RS_bound HRL.out b hb).1; simp only at e; omega)
end Go.Proofs.Ytgdboikoejodpaa.Gone
