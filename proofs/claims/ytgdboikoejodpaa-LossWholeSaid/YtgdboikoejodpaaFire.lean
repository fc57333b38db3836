/- Fire: the walk. -/
import Derived.Test.YtgdboikoejodpaaInv
namespace Go.Proofs.Ytgdboikoejodpaa.Fire
open Go Go.RowKit Go.Proofs.YtgdboikoejodpaaW.PrintWords Go.Proofs.YtgdboikoejodpaaW.PrintLast Go.Proofs.YtgdboikoejodpaaW.PrintMore Go.Proofs.Ytgdboikoejodpaa.Keep Go.Proofs.Ytgdboikoejodpaa.Led Go.Proofs.Ytgdboikoejodpaa.Rate Go.Proofs.Ytgdboikoejodpaa.Rd Go.Proofs.Ytgdboikoejodpaa.Timer Go.Proofs.Ytgdboikoejodpaa.LedSp Go.Proofs.Ytgdboikoejodpaa.Drop Go.Proofs.Ytgdboikoejodpaa.In Go.Proofs.Ytgdboikoejodpaa.Split Go.Proofs.Ytgdboikoejodpaa.GoneP Go.Proofs.Ytgdboikoejodpaa.Gone Go.Proofs.Ytgdboikoejodpaa.AckP Go.Proofs.Ytgdboikoejodpaa.Ack Go.Proofs.Ytgdboikoejodpaa.Clone Go.Proofs.Ytgdboikoejodpaa.Sent Go.Proofs.Ytgdboikoejodpaa.Inv
set_option linter.unusedVariables false

def setO (f : Nat → List S) (k : Nat) (l : List S) : Nat → List S := fun j => if j = k then l else f j
def fireK (now : Int) (L : Lg) : Nat → Lg × (Nat → List S) × Bool
  | 0 => (L, fun _ => [], false)
  | k + 1 => if 0 < ((fireK now L k).1.sp k).timeout ∧ ((fireK now L k).1.sp k).timeout ≤ now then (goneL k now (fireK now L k).1, setO (fireK now L k).2.1 k (goneO k now (fireK now L k).1), true) else fireK now L k
/-- Fire: the ledger behind, what is lost, whether a probe is to be sent. -/
def fireL (now : Int) (L : Lg) : Lg × (Nat → List S) × Bool :=
  if (timerL L).2 = false ∨ now < (timerL L).1 ∨ 1099511627776 < now then (L, fun _ => [], false)
  else if (fireK now L 3).2.2 = true then ((fireK now L 3).1, (fireK now L 3).2.1, false)
  else ({ (fireK now L 3).1 with tries := (fireK now L 3).1.tries + 1, last := now }, (fireK now L 3).2.1, true)
theorem fireK_N {n : Nat} {L : Lg} (h : LgN n L) (now : Int) (hn : 0 ≤ now ∧ now ≤ 1099511627776) (k : Nat) (hk : k ≤ 3) : LgN n (fireK now L k).1 := by
  induction k with
  | zero => exact h
  | succ k ih =>
    have := ih (by omega)
    unfold fireK
    split
    · exact goneN this k (by omega) now hn
    · exact this
theorem fireN {n : Nat} {L : Lg} (h : LgN n L) (hnn : n ≤ 500000) (now : Int) (hn : 0 ≤ now) : LgN (n + 1) (fireL now L).1 := by
  unfold fireL
  split
  · exact h.mono (by omega)
  · rename_i h1
    have f := fireK_N h now ⟨hn, by omega⟩ 3 (by omega)
    split
    · exact f.mono (by omega)
    · have h2 := f.k
      have h3 := f.b.tries
      have h4 := f.w
      refine ⟨⟨f.b.r, f.b.next, f.b.acked, f.b.timeout, ⟨?_, ?_⟩, ⟨hn, ?_⟩, f.b.list, f.b.many⟩, f.t, ⟨h4.1, ?_⟩, ?_⟩
      · show 0 ≤ (fireK now L 3).1.tries + 1; omega
      · show (fireK now L 3).1.tries + 1 ≤ _; omega
      · show now ≤ _; omega
      · show (fireK now L 3).1.r.window ≤ _; omega
      · show (fireK now L 3).1.tries + 1 ≤ _; omega

/-- In the loop: the ledger, the answers so far. -/
structure FS (w W : World) (p base : Nat) (v : Nat → Value) (L : Lg) (out : Nat → List S) (o v' : Nat → Value) : Prop where
  led : Led W p base L v'
  box : W.heap[w.heap.size]? = some (.cells #[o 0, o 1, o 2] 47 (0, 0))
  rows : ∀ j, j < 3 → RS W (w.heap.size + 1) (o j) (out j)
  vown : ∀ j b, j < 3 → (v' j).ownBlock = some b → (v j).ownBlock = some b ∨ w.heap.size < b
  kp : Kp p w W
def FirePost (w : World) (p base : Nat) (v : Nat → Value) (t : Lg × (Nat → List S) × Bool) (e : Ending) (w' : World) : Prop :=
  ∃ o v' : Nat → Value, e = .returned (.tuple #[.agg #[o 0, o 1, o 2], .bool t.2.2]) ∧ FS w w' p base v t.1 t.2.1 o v'

theorem FS.drewN {w W : World} {p base : Nat} {v : Nat → Value} {L : Lg} {out : Nat → List S} {o v' : Nat → Value} (h : FS w W p base v L out o v') (n : Nat) : FS w (W.drewN n) p base v L out o v' :=
  ⟨led_drewN h.led n, h.box, fun j hj => RS_move (h.rows j hj) (fun _ _ => rfl), h.vown, h.kp.drewN n⟩
theorem ends {W : World} {tmps : Array Value} {hb : Nat} {x y z a : Value} (h4 : tmps.getD 4 undef = .pointer (some ⟨hb, 0, none⟩)) (h5 : tmps.getD 5 undef = a)
    (hk : W.heap[hb]? = some (.cells #[x, y, z] 47 (0, 0))) : (results Try.f19 tmps).run Try.prog W = .ok (.tuple #[.agg #[x, y, z], a]) W := by
  have k0 := blk_cell hk 0
  have k1 := blk_cell hk 1
  have k2 := blk_cell hk 2
  have hr : Try.f19.results = #[.cell 4 47, .tmp 5] := by kernel_rfl
  unfold results
  rw [hr]
  have hu := Try.underlying47
  rw [Array.getD_eq_getD_getElem?] at h4 h5
  simp [go_sem, h4, h5, k0, k1, k2]
/-- The box laid anew as it is. -/
theorem FS.again {w W : World} {p base : Nat} {v : Nat → Value} {L : Lg} {out : Nat → List S} {o v' : Nat → Value} (h : FS w W p base v L out o v') : FS w (((W.setCell ⟨w.heap.size, 0, none⟩ (o 0)).setCell ⟨w.heap.size, 1, none⟩ (o 1)).setCell ⟨w.heap.size, 2, none⟩ (o 2)) p base v L out o v' := by
  have hb0 := blk_set h.box 0 (o 0)
  have hb1 := blk_set hb0 1 (o 1)
  have hb2 := blk_set hb1 2 (o 2)
  have far : ∀ k, k ≠ w.heap.size → (((W.setCell ⟨w.heap.size, 0, none⟩ (o 0)).setCell ⟨w.heap.size, 1, none⟩ (o 1)).setCell ⟨w.heap.size, 2, none⟩ (o 2)).heap[k]? = W.heap[k]? := fun k hk =>
    ((Below.heap_setCell _ ⟨w.heap.size, 2, none⟩ _ k hk).trans (Below.heap_setCell _ ⟨w.heap.size, 1, none⟩ _ k hk)).trans (Below.heap_setCell _ ⟨w.heap.size, 0, none⟩ _ k hk)
  have hp := blk_lt h.led.blk
  have hne : ∀ k, own p v' k → k ≠ w.heap.size := by
    intro k hk e
    subst e
    rcases hk with e | ⟨j, hj, e⟩
    · have h1 := h.led.blk
      rw [← e, h.box] at h1
      injection h1 with h1
      injection h1 with _ h2
      exact absurd h2 (by decide)
    · obtain ⟨c, hc⟩ := RS_typed (h.led.row j hj) _ e
      rw [h.box] at hc
      injection hc with hc
      injection hc with _ h2
      exact absurd h2 (by decide)
  refine ⟨h.led.stays (fun k hk => far k (hne k hk)), hb2, fun j hj => RS_move (h.rows j hj) (fun k hk => far k (by have := (RS_bound (h.rows j hj) k hk).1; omega)), h.vown, ⟨h.kp.os, h.kp.tape, h.kp.output, by simpa using h.kp.size, fun k hk hkp => (far k (by omega)).trans (h.kp.block k hk hkp)⟩⟩

theorem box_ne {W : World} {p base b : Nat} {L : Lg} {v' : Nat → Value} {cs : Array Value} (hl : Led W p base L v') (hb : W.heap[b]? = some (.cells cs 47 (0, 0))) (k : Nat) (hk : Led.own p v' k) : k ≠ b := by
  intro e
  subst e
  rcases hk with e | ⟨j, hj, e⟩
  · have h1 := hl.blk
    rw [← e, hb] at h1
    injection h1 with h1
    injection h1 with _ h2
    exact absurd h2 (by decide)
  · obtain ⟨c, hc⟩ := RS_typed (hl.row j hj) _ e
    rw [hb] at hc
    injection hc with hc
    injection hc with _ h2
    exact absurd h2 (by decide)
theorem FS.turn {w W W' : World} {p base : Nat} {v : Nat → Value} {L L' : Lg} {out : Nat → List S} {o v' : Nat → Value} (h : FS w W p base v L out o v') (hp : p < w.heap.size) (hl : Led W' p base L' v') (hk : Kp p W W') : FS w W' p base v L' out o v' :=
  ⟨hl, hk.blk h.box (by omega), fun j hj => RS_move (h.rows j hj) (fun k hk2 => hk.block k (RS_bound (h.rows j hj) k hk2).2 (by have := (RS_bound (h.rows j hj) k hk2).1; omega)), h.vown, h.kp.trans hk⟩
theorem FS.step {w W w5 : World} {p base : Nat} {v : Nat → Value} {Lk L5 : Lg} {out : Nat → List S} {o v' : Nat → Value} (h : FS w W p base v Lk out o v') (hp : p < w.heap.size) (k : Nat) (hk : k < 3) {vl vs : Value} {l5 : List S}
    (hl : Led w5 p base L5 (setV v' k vs)) (hr : RS w5 W.heap.size vl l5) (hs : ∀ b, vs.ownBlock = some b → W.heap.size ≤ b) (hkp : Kp p W w5) : FS w (w5.setCell ⟨w.heap.size, k, none⟩ vl) p base v L5 (setO out k l5) (setV o k vl) (setV v' k vs) := by
  have hb5 := hkp.blk h.box (by omega)
  have hlt := blk_lt h.box
  have hb := blk_set hb5 k vl
  have far : ∀ j, j ≠ w.heap.size → (w5.setCell ⟨w.heap.size, k, none⟩ vl).heap[j]? = w5.heap[j]? := fun j hj => Below.heap_setCell _ ⟨w.heap.size, k, none⟩ _ j hj
  refine ⟨hl.stays (fun j hj => far j (box_ne hl hb5 j hj)), ?_, fun j hj => ?_, fun j b hj e => ?_, ⟨?_, ?_, ?_, ?_, fun j hj hjp => ?_⟩⟩
  · rw [hb]
    rcases three hk with rfl | rfl | rfl <;> simp [setV]
  · by_cases e : j = k
    · subst e
      rw [setV_same]
      simp only [setO, if_true]
      exact RS_move (Kd.R_lower hr (by omega)) (fun b hb2 => far b (by have := (RS_bound hr b hb2).1; omega))
    · rw [setV_other _ _ _ _ e]
      simp only [setO, if_neg e]
      exact RS_move (h.rows j hj) (fun b hb2 => (far b (by have := (RS_bound (h.rows j hj) b hb2).1; omega)).trans (hkp.block b (RS_bound (h.rows j hj) b hb2).2 (by have := (RS_bound (h.rows j hj) b hb2).1; omega)))
  · by_cases ej : j = k
    · subst ej; rw [setV_same] at e; exact .inr (Nat.lt_of_lt_of_le hlt (hs b e))
    · rw [setV_other _ _ _ _ ej] at e; exact h.vown j b hj e
  · exact hkp.os.trans h.kp.os
  · exact hkp.tape.trans h.kp.tape
  · exact hkp.output.trans h.kp.output
  · simpa using Nat.le_trans h.kp.size hkp.size
  · exact (far j (by omega)).trans ((hkp.block j (Nat.lt_of_lt_of_le hj h.kp.size) hjp).trans (h.kp.block j hj hjp))

set_option maxHeartbeats 4000000 in
set_option maxRecDepth 100000 in
theorem fire_calls {w : World} {p base : Nat} {L : Lg} {v : Nat → Value} (h : Led w p base L v) {n : Nat} (hN : LgN n L) (hnn : n ≤ 500000) (now : Int) (hn : 0 ≤ now ∧ now < 18446744073709551616) :
    Calls Try.prog 19 #[.pointer (some ⟨p, 0, none⟩), .int .u64 now] w (FirePost w p base v (fireL now L)) := by
  have B := (Below.refl w.heap.size w).alloc (Nat.le_refl _) (.cells #[.slice none 0 0, .slice none 0 0, .slice none 0 0] 47)
  have F0 : FS w (w.alloc (.cells #[.slice none 0 0, .slice none 0 0, .slice none 0 0] 47)) p base v L (fun _ => []) (fun _ => .slice none 0 0) v :=
    ⟨h.below B, heap_alloc_new _ _, fun j hj => Kd.R_nil _ _ _ _ _, fun j b _ e => .inl e, Kp.of_below B⟩
  have HF0 := Lib.hid F0
  have hpl := blk_lt h.blk
  have HN := Lib.hid hN
  obtain ⟨t, ht⟩ : ∃ t, fireL now L = t := ⟨_, rfl⟩
  rw [ht]
  have HT := Lib.hid ht
  obtain ⟨n0, n1⟩ := hn
  have TC := fun {w : World} (h : Led w p base L v) => timer_calls h hN.b
  obtain ⟨at1, hat⟩ : ∃ a, (timerL L).1 = a := ⟨_, rfl⟩
  obtain ⟨ok1, hok⟩ : ∃ a, (timerL L).2 = a := ⟨_, rfl⟩
  have HTC := Lib.hid (TC F0.led)
  rw [hat, hok] at HTC
  have HAT := Lib.hid hat
  have HOK := Lib.hid hok
  clear F0 B TC hat hok ht h hN
  go_enter Try.func19, Try.ntmps19
  go_upto_region 1 with fail
  generalize w.alloc (.cells #[.slice none 0 0, .slice none 0 0, .slice none 0 0] 47) = w1 at HF0 HTC ⊢
  go_wp2_with fail
  refine HTC.out.mono ?_
  rintro e w2 ⟨rfl, nq, rfl⟩
  have HF1 := Lib.hid (HF0.out.drewN nq)
  generalize w1.drewN nq = w2 at HF1 ⊢
  clear HTC HF0
  have LOW : ∀ (W : World), FS w W p base v L (fun _ => []) (fun _ => .slice none 0 0) v → (ok1 = false ∨ now < at1 ∨ 1099511627776 < now) → FirePost w p base v t (.returned (.tuple #[.agg #[.slice none 0 0, .slice none 0 0, .slice none 0 0], .bool false])) (((W.setCell ⟨w.heap.size, 0, none⟩ (.slice none 0 0)).setCell ⟨w.heap.size, 1, none⟩ (.slice none 0 0)).setCell ⟨w.heap.size, 2, none⟩ (.slice none 0 0)) := by
    intro W hF hc
    have e : t = (L, fun _ => [], false) := by rw [← HT.out]; unfold fireL; rw [HAT.out, HOK.out, if_pos hc]
    rw [e]
    exact ⟨fun _ => .slice none 0 0, v, rfl, hF.again⟩
  have c0 := blk_cell HF1.out.box 0
  have c1 := blk_cell HF1.out.box 1
  have c2 := blk_cell HF1.out.box 2
  have f0 := blk_frozen HF1.out.box 0
  have f1 := blk_frozen HF1.out.box 1
  have f2 := blk_frozen HF1.out.box 2
  have HLOW := Lib.hid LOW
  clear LOW
  cases ok1 with
  | false =>
    go_wp2_with fail
    refine bodyPost_ret (ends rfl rfl HF1.out.again.box) rfl ?_
    exact HLOW.out _ HF1.out (.inl (by first | rfl | trivial))
  | true =>
    by_cases g1 : now < at1
    · go_wp2_with fail
      refine bodyPost_ret (ends rfl rfl HF1.out.again.box) rfl ?_
      exact HLOW.out _ HF1.out (.inr (.inl g1))
    · by_cases g2 : 1099511627776 < now
      · go_wp2_with fail
        refine bodyPost_ret (ends rfl rfl HF1.out.again.box) rfl ?_
        exact HLOW.out _ HF1.out (.inr (.inr g2))
      · clear c0 c1 c2 f0 f1 f2 HLOW
        have et : t = if (fireK now L 3).2.2 = true then ((fireK now L 3).1, (fireK now L 3).2.1, false) else ({ (fireK now L 3).1 with tries := (fireK now L 3).1.tries + 1, last := now }, (fireK now L 3).2.1, true) := by
          rw [← HT.out]; unfold fireL; rw [HAT.out, HOK.out, if_neg (by rintro (h | h | h) <;> first | exact g1 h | exact g2 h | cases h)]
        have HET := Lib.hid et
        clear et
        have nb : 0 ≤ now ∧ now ≤ 1099511627776 := ⟨n0, by omega⟩
        have HG := fun k hk => fireK_N HN.out now nb k hk
        have HGN := Lib.hid HG
        clear HG
        go_wp2_with fail
        go_loopw [8, 28] (fun sm j wr => ∃ (k : Nat) (o v' : Nat → Value), k ≤ 3 ∧ j = .int .i64 (k : Int) ∧ sm = .bool (fireK now L k).2.2 ∧ Hid (FS w wr p base v (fireK now L k).1 (fireK now L k).2.1 o v')) (fun _ j _ => 3 - (intOf j).toNat)
        case atStart => exact ⟨0, _, _, by omega, rfl, rfl, HF1⟩
        case round =>
          obtain ⟨k, o, v', hk, rfl, rfl, HF⟩ := hrel
          by_cases hk3 : k < 3
          · obtain ⟨d0, d1, d2, d3⟩ := sp_cells HF.out.led k hk3
            have hkt := (HGN.out k (by omega)).b.timeout k hk3
            have es : fireK now L (k + 1) = if 0 < ((fireK now L k).1.sp k).timeout ∧ ((fireK now L k).1.sp k).timeout ≤ now then (goneL k now (fireK now L k).1, setO (fireK now L k).2.1 k (goneO k now (fireK now L k).1), true) else fireK now L k := rfl
            have GC := gone_calls HF.out.led (HGN.out k (by omega)).b k hk3 ((HGN.out k (by omega)).fl k hk3) now nb
            obtain ⟨f, hf⟩ : ∃ f, fireK now L k = f := ⟨_, rfl⟩
            rw [hf] at d3 hkt es GC HF ⊢
            obtain ⟨Lk, out, sm⟩ := f
            simp only at d3 hkt es GC HF ⊢
            obtain ⟨tk, htk⟩ : ∃ tk, (Lk.sp k).timeout = tk := ⟨_, rfl⟩
            rw [htk] at d3 hkt es
            have HES := Lib.hid es
            have HGC := Lib.hid GC
            clear d0 d1 d2 GC es hf
            by_cases g3 : 0 < tk
            · by_cases g4 : tk ≤ now
              · have hgt : decide (tk > 0) = true := by simp; omega
                go_wp2_with fail
                refine HGC.out.mono ?_
                rintro e w5 ⟨vl, vs, rfl, L5, R5, A5, S5, K5⟩
                obtain ⟨Al, cl, el, -⟩ := row_slice R5
                subst el
                have c0 := blk_cell (K5.blk HF.out.box (by have := hpl; omega)) k
                have fz := blk_frozen (K5.blk HF.out.box (by have := hpl; omega)) k
                have cv : (#[o 0, o 1, o 2] : Array Value)[k]? = some (o k) := by rcases three hk3 with rfl | rfl | rfl <;> rfl
                rw [cv] at c0
                obtain ⟨Ak, ck, ek, -⟩ := row_slice (HF.out.rows k hk3)
                rw [ek] at c0
                have HFn := Lib.hid (HF.out.step hpl k hk3 L5 R5 S5 K5)
                clear L5 R5 A5 S5 K5
                go_wp2_with fail
                go_roundw
                case rel => exact ⟨k + 1, _, _, by omega, by simp, by rw [HES.out, if_pos ⟨g3, g4⟩], by rw [HES.out, if_pos ⟨g3, g4⟩]; exact HFn⟩
                case measure => simp [intOf]; omega
              · go_wp2_with fail
                go_roundw
                case rel => exact ⟨k + 1, o, v', by omega, by simp, by rw [HES.out, if_neg (fun h => g4 h.2)], by rw [HES.out, if_neg (fun h => g4 h.2)]; exact HF⟩
                case measure => simp [intOf]; omega
            · go_wp2_with fail
              go_roundw
              case rel => exact ⟨k + 1, o, v', by omega, by simp, by rw [HES.out, if_neg (fun h => g3 h.1)], by rw [HES.out, if_neg (fun h => g3 h.1)]; exact HF⟩
              case measure => simp [intOf]; omega
          · have e3 : k = 3 := by omega
            subst e3
            have het := HET.out
            have HB3 := Lib.hid (HGN.out 3 (by omega)).b
            obtain ⟨f, hf⟩ : ∃ f, fireK now L 3 = f := ⟨_, rfl⟩
            rw [hf] at het HB3 HF ⊢
            obtain ⟨Lk, out, sm⟩ := f
            simp only at het HB3 HF ⊢
            obtain ⟨A0, c0, e0, -⟩ := row_slice (HF.out.rows 0 (by omega))
            obtain ⟨A1, c1, e1, -⟩ := row_slice (HF.out.rows 1 (by omega))
            obtain ⟨A2, c2, e2, -⟩ := row_slice (HF.out.rows 2 (by omega))
            obtain ⟨n0', hn0⟩ : ∃ n, (out 0).length = n := ⟨_, rfl⟩
            obtain ⟨n1', hn1⟩ : ∃ n, (out 1).length = n := ⟨_, rfl⟩
            obtain ⟨n2', hn2⟩ : ∃ n, (out 2).length = n := ⟨_, rfl⟩
            rw [hn0] at e0
            rw [hn1] at e1
            rw [hn2] at e2
            have HE0 := Lib.hid e0
            have HE1 := Lib.hid e1
            have HE2 := Lib.hid e2
            clear e0 e1 e2
            cases sm with
            | true =>
              rw [if_pos rfl] at het
              have k0 := blk_cell HF.out.box 0
              have k1 := blk_cell HF.out.box 1
              have k2 := blk_cell HF.out.box 2
              have f0 := blk_frozen HF.out.box 0
              have f1 := blk_frozen HF.out.box 1
              have f2 := blk_frozen HF.out.box 2
              replace k0 := k0.trans (congrArg some HE0.out)
              replace k1 := k1.trans (congrArg some HE1.out)
              replace k2 := k2.trans (congrArg some HE2.out)
              have HFa := Lib.hid HF.out.again
              rw [HE0.out, HE1.out, HE2.out] at HFa
              have HTT := Lib.hid het
              clear het
              go_wp2_with fail
              refine bodyPost_ret (ends rfl rfl HFa.out.box) rfl ?_
              rw [HTT.out]
              exact ⟨o, v', rfl, HFa.out⟩
            | false =>
              rw [if_neg (by decide)] at het
              obtain ⟨d4, d5⟩ := end_cells HF.out.led
              have hlt := HB3.out.tries
              have z4 := sp_frozen HF.out.led 19
              have hwt : IntKind.i64.wrap (Lk.tries + 1) = Lk.tries + 1 := by rw [IntKind.wrap_i64]; omega
              have HTT := Lib.hid het
              clear het
              go_upto_region 16 with fail
              have HFb := Lib.hid (HF.out.turn hpl (putTries HF.out.led (Lk.tries + 1)) ((Kp.refl p wr).set 19 (.int .i64 (Lk.tries + 1))))
              generalize wr.setCell ⟨p, 19, none⟩ (.int .i64 (Lk.tries + 1)) = w6 at HFb ⊢
              clear d4 d5 z4
              obtain ⟨d4, d5⟩ := end_cells HFb.out.led
              have z4 := sp_frozen HFb.out.led 20
              go_upto_region 17 with fail
              have HFc := Lib.hid (HFb.out.turn hpl (putLast HFb.out.led now) ((Kp.refl p w6).set 20 (.int .u64 now)))
              generalize w6.setCell ⟨p, 20, none⟩ (.int .u64 now) = w7 at HFc ⊢
              clear d4 d5 z4
              have k0 := blk_cell HFc.out.box 0
              have k1 := blk_cell HFc.out.box 1
              have k2 := blk_cell HFc.out.box 2
              have f0 := blk_frozen HFc.out.box 0
              have f1 := blk_frozen HFc.out.box 1
              have f2 := blk_frozen HFc.out.box 2
              replace k0 := k0.trans (congrArg some HE0.out)
              replace k1 := k1.trans (congrArg some HE1.out)
              replace k2 := k2.trans (congrArg some HE2.out)
              have HFa := Lib.hid HFc.out.again
              rw [HE0.out, HE1.out, HE2.out] at HFa
              go_wp2_with fail
              refine bodyPost_ret (ends rfl rfl HFa.out.box) rfl ?_
              rw [HTT.out]
              exact ⟨o, v', rfl, HFa.out⟩
end Go.Proofs.Ytgdboikoejodpaa.Fire
