/- The reference's Fire: the walk. -/
import Derived.Test.YtgdboikoejodpaaRefSent
namespace Go.Proofs.Ytgdboikoejodpaa.RefFire
open Go Go.RowKit Go.Proofs.YtgdboikoejodpaaW.PrintWords Go.Proofs.YtgdboikoejodpaaW.PrintLast Go.Proofs.YtgdboikoejodpaaW.PrintMore Go.Proofs.Ytgdboikoejodpaa.Keep Go.Proofs.Ytgdboikoejodpaa.Led Go.Proofs.Ytgdboikoejodpaa.Rate Go.Proofs.Ytgdboikoejodpaa.Rd Go.Proofs.Ytgdboikoejodpaa.Timer Go.Proofs.Ytgdboikoejodpaa.LedSp Go.Proofs.Ytgdboikoejodpaa.Drop Go.Proofs.Ytgdboikoejodpaa.In Go.Proofs.Ytgdboikoejodpaa.Split Go.Proofs.Ytgdboikoejodpaa.GoneP Go.Proofs.Ytgdboikoejodpaa.Gone Go.Proofs.Ytgdboikoejodpaa.AckP Go.Proofs.Ytgdboikoejodpaa.Ack Go.Proofs.Ytgdboikoejodpaa.Clone Go.Proofs.Ytgdboikoejodpaa.Sent Go.Proofs.Ytgdboikoejodpaa.Inv Go.Proofs.Ytgdboikoejodpaa.Fire Go.Proofs.Ytgdboikoejodpaa.Law Go.Proofs.Ytgdboikoejodpaa.Ref Go.Proofs.Ytgdboikoejodpaa.RefB Go.Proofs.Ytgdboikoejodpaa.RefLost
set_option linter.unusedVariables false

/-- In the loop: the ledger, the answers so far; the result's own box is empty. -/
structure RS3 (w W : World) (q base : Nat) (v : Nat → Value) (L : Lg) (out : Nat → List S) (o v' : Nat → Value) : Prop where
  led : RL W q base L v'
  res : W.heap[w.heap.size]? = some (.cells #[.slice none 0 0, .slice none 0 0, .slice none 0 0] 47 (0, 0))
  box : W.heap[w.heap.size + 1]? = some (.cells #[o 0, o 1, o 2] 47 (0, 0))
  rows : ∀ j, j < 3 → RE W (w.heap.size + 2) (o j) (out j)
  vown : ∀ j b, j < 3 → (v' j).ownBlock = some b → (v j).ownBlock = some b ∨ w.heap.size ≤ b
  kp : Kp q w W
def RFirePost (w : World) (q base : Nat) (v : Nat → Value) (t : Lg × (Nat → List S) × Bool) (e : Ending) (w' : World) : Prop :=
  ∃ o v' : Nat → Value, e = .returned (.tuple #[.agg #[o 0, o 1, o 2], .bool t.2.2]) ∧ RL w' q base t.1 v' ∧ (∀ j, j < 3 → RE w' w.heap.size (o j) (t.2.1 j)) ∧ (∀ j b, j < 3 → (v' j).ownBlock = some b → (v j).ownBlock = some b ∨ w.heap.size ≤ b) ∧ Kp q w w'
theorem RS3.drewN {w W : World} {q base : Nat} {v : Nat → Value} {L : Lg} {out : Nat → List S} {o v' : Nat → Value} (h : RS3 w W q base v L out o v') (n : Nat) : RS3 w (W.drewN n) q base v L out o v' :=
  ⟨h.led.drewN n, h.res, h.box, fun j hj => RE_move (h.rows j hj) (fun _ _ => rfl), h.vown, h.kp.drewN n⟩
theorem ends {W : World} {tmps : Array Value} {hb : Nat} {x y z a : Value} (h4 : tmps.getD 4 undef = .pointer (some ⟨hb, 0, none⟩)) (h5 : tmps.getD 5 undef = a)
    (hk : W.heap[hb]? = some (.cells #[x, y, z] 47 (0, 0))) : (results Try.f25 tmps).run Try.prog W = .ok (.tuple #[.agg #[x, y, z], a]) W := by
  have k0 := blk_cell hk 0
  have k1 := blk_cell hk 1
  have k2 := blk_cell hk 2
  have hr : Try.f25.results = #[.cell 4 47, .tmp 5] := by kernel_rfl
  unfold results
  rw [hr]
  have hu := Try.underlying47
  rw [Array.getD_eq_getD_getElem?] at h4 h5
  simp [go_sem, h4, h5, k0, k1, k2]
theorem box_ne {W : World} {q base b : Nat} {L : Lg} {v' : Nat → Value} {cs : Array Value} (hl : RL W q base L v') (hb : W.heap[b]? = some (.cells cs 47 (0, 0))) (k : Nat) (hk : Led.own q v' k) : k ≠ b := by
  intro e
  subst e
  rcases hk with e | ⟨j, hj, e⟩
  · have h1 := hl.blk
    rw [← e, hb] at h1
    injection h1 with h1
    injection h1 with _ h2
    exact absurd h2 (by decide)
  · obtain ⟨c, hc⟩ := RE_typed (hl.row j hj) _ e
    rw [hb] at hc
    injection hc with hc
    injection hc with _ h2
    exact absurd h2 (by decide)
/-- The result laid: what is answered. -/
theorem RS3.fin {w W : World} {q base : Nat} {v : Nat → Value} {L : Lg} {out : Nat → List S} {o v' : Nat → Value} (h : RS3 w W q base v L out o v') : (((W.setCell ⟨w.heap.size, 0, none⟩ (o 0)).setCell ⟨w.heap.size, 1, none⟩ (o 1)).setCell ⟨w.heap.size, 2, none⟩ (o 2)).heap[w.heap.size]? = some (.cells #[o 0, o 1, o 2] 47 (0, 0)) ∧
    RL (((W.setCell ⟨w.heap.size, 0, none⟩ (o 0)).setCell ⟨w.heap.size, 1, none⟩ (o 1)).setCell ⟨w.heap.size, 2, none⟩ (o 2)) q base L v' ∧ (∀ j, j < 3 → RE (((W.setCell ⟨w.heap.size, 0, none⟩ (o 0)).setCell ⟨w.heap.size, 1, none⟩ (o 1)).setCell ⟨w.heap.size, 2, none⟩ (o 2)) w.heap.size (o j) (out j)) ∧ Kp q w (((W.setCell ⟨w.heap.size, 0, none⟩ (o 0)).setCell ⟨w.heap.size, 1, none⟩ (o 1)).setCell ⟨w.heap.size, 2, none⟩ (o 2)) := by
  have hb0 := blk_set h.res 0 (o 0)
  have hb1 := blk_set hb0 1 (o 1)
  have hb2 := blk_set hb1 2 (o 2)
  have far : ∀ k, k ≠ w.heap.size → (((W.setCell ⟨w.heap.size, 0, none⟩ (o 0)).setCell ⟨w.heap.size, 1, none⟩ (o 1)).setCell ⟨w.heap.size, 2, none⟩ (o 2)).heap[k]? = W.heap[k]? := fun k hk =>
    ((Below.heap_setCell _ ⟨w.heap.size, 2, none⟩ _ k hk).trans (Below.heap_setCell _ ⟨w.heap.size, 1, none⟩ _ k hk)).trans (Below.heap_setCell _ ⟨w.heap.size, 0, none⟩ _ k hk)
  exact ⟨hb2, h.led.stays (fun k hk => far k (box_ne h.led h.res k hk)), fun j hj => RE_move (Kd.R_lower (h.rows j hj) (by omega)) (fun k hk => far k (by have := (RE_bound (h.rows j hj) k hk).1; omega)), ⟨h.kp.os, h.kp.tape, h.kp.output, by simpa using h.kp.size, fun k hk hkp => (far k (by omega)).trans (h.kp.block k hk hkp)⟩⟩
theorem RS3.turn {w W W' : World} {q base : Nat} {v : Nat → Value} {L L' : Lg} {out : Nat → List S} {o v' : Nat → Value} (h : RS3 w W q base v L out o v') (hp : q < w.heap.size) (hl : RL W' q base L' v') (hk : Kp q W W') : RS3 w W' q base v L' out o v' :=
  ⟨hl, hk.blk h.res (by omega), hk.blk h.box (by omega), fun j hj => RE_move (h.rows j hj) (fun k hk2 => hk.block k (RE_bound (h.rows j hj) k hk2).2 (by have := (RE_bound (h.rows j hj) k hk2).1; omega)), h.vown, h.kp.trans hk⟩
theorem RS3.step {w W w5 : World} {q base : Nat} {v : Nat → Value} {Lk L5 : Lg} {out : Nat → List S} {o v' : Nat → Value} (h : RS3 w W q base v Lk out o v') (hp : q < w.heap.size) (k : Nat) (hk : k < 3) {vl vs : Value} {l5 : List S}
    (hl : RL w5 q base L5 (setV v' k vs)) (hr : RE w5 W.heap.size vl l5) (hs : ∀ b, vs.ownBlock = some b → W.heap.size ≤ b) (hkp : Kp q W w5) : RS3 w (w5.setCell ⟨w.heap.size + 1, k, none⟩ vl) q base v L5 (setO out k l5) (setV o k vl) (setV v' k vs) := by
  have hb5 := hkp.blk h.box (by omega)
  have hb6 := hkp.blk h.res (by omega)
  have hlt := blk_lt h.box
  have hb := blk_set hb5 k vl
  have far : ∀ j, j ≠ w.heap.size + 1 → (w5.setCell ⟨w.heap.size + 1, k, none⟩ vl).heap[j]? = w5.heap[j]? := fun j hj => Below.heap_setCell _ ⟨w.heap.size + 1, k, none⟩ _ j hj
  refine ⟨hl.stays (fun j hj => far j (box_ne hl hb5 j hj)), (far _ (by omega)).trans hb6, ?_, fun j hj => ?_, fun j b hj e => ?_, ⟨?_, ?_, ?_, ?_, fun j hj hjp => ?_⟩⟩
  · rw [hb]
    rcases three hk with rfl | rfl | rfl <;> simp [setV]
  · by_cases e : j = k
    · subst e
      rw [setV_same]
      simp only [setO, if_true]
      exact RE_move (Kd.R_lower hr (by omega)) (fun b hb2 => far b (by have := (RE_bound hr b hb2).1; omega))
    · rw [setV_other _ _ _ _ e]
      simp only [setO, if_neg e]
      exact RE_move (h.rows j hj) (fun b hb2 => (far b (by have := (RE_bound (h.rows j hj) b hb2).1; omega)).trans (hkp.block b (RE_bound (h.rows j hj) b hb2).2 (by have := (RE_bound (h.rows j hj) b hb2).1; omega)))
  · by_cases ej : j = k
    · subst ej; rw [setV_same] at e; exact .inr (by have := hs b e; omega)
    · rw [setV_other _ _ _ _ ej] at e; exact h.vown j b hj e
  · exact hkp.os.trans h.kp.os
  · exact hkp.tape.trans h.kp.tape
  · exact hkp.output.trans h.kp.output
  · simpa using Nat.le_trans h.kp.size hkp.size
  · exact (far j (by omega)).trans ((hkp.block j (Nat.lt_of_lt_of_le hj h.kp.size) hjp).trans (h.kp.block j hj hjp))

set_option maxHeartbeats 8000000 in
set_option maxRecDepth 100000 in
theorem rfire_calls {w : World} {q base : Nat} {L : Lg} {v : Nat → Value} (h : RL w q base L v) {n : Nat} (hN : LgN n L) (hnn : n ≤ 500000) (now : Int) (hn : 0 ≤ now ∧ now < 18446744073709551616) :
    Calls Try.prog 25 #[.pointer (some ⟨q, 0, none⟩), .int .u64 now] w (RFirePost w q base v (fireL now L)) := by
  have B := ((Below.refl w.heap.size w).alloc (Nat.le_refl _) (.cells #[.slice none 0 0, .slice none 0 0, .slice none 0 0] 47)).alloc (by simp) (.cells #[.slice none 0 0, .slice none 0 0, .slice none 0 0] 47)
  have F0 : RS3 w ((w.alloc (.cells #[.slice none 0 0, .slice none 0 0, .slice none 0 0] 47)).alloc (.cells #[.slice none 0 0, .slice none 0 0, .slice none 0 0] 47)) q base v L (fun _ => []) (fun _ => .slice none 0 0) v := by
    refine ⟨h.below B, ?_, ?_, fun j hj => Kd.R_nil _ _ _ _ _, fun j b _ e => .inl e, Kp.of_below B⟩
    · exact blk_below (heap_alloc_new w _) ((Below.refl _ _).alloc (Nat.le_refl _) _)
    · have := heap_alloc_new (w.alloc (.cells #[.slice none 0 0, .slice none 0 0, .slice none 0 0] 47)) (.cells #[.slice none 0 0, .slice none 0 0, .slice none 0 0] 47)
      simpa using this
  have HF0 := Lib.hid F0
  have HN := Lib.hid hN
  have hpl := blk_lt h.blk
  obtain ⟨t, ht⟩ : ∃ t, fireL now L = t := ⟨_, rfl⟩
  rw [ht]
  have HT := Lib.hid ht
  obtain ⟨n0, n1⟩ := hn
  have TC := fun {w : World} (h : RL w q base L v) => rtimer_calls h hN.b
  obtain ⟨at1, hat⟩ : ∃ a, (timerL L).1 = a := ⟨_, rfl⟩
  obtain ⟨ok1, hok⟩ : ∃ a, (timerL L).2 = a := ⟨_, rfl⟩
  have HTC := Lib.hid (TC F0.led)
  rw [hat, hok] at HTC
  have HAT := Lib.hid hat
  have HOK := Lib.hid hok
  clear F0 B TC hat hok ht h hN
  go_enter Try.func25, Try.ntmps25
  go_upto_region 2 with fail
  try simp only [World.alloc_size] 
  generalize (w.alloc (.cells #[.slice none 0 0, .slice none 0 0, .slice none 0 0] 47)).alloc (.cells #[.slice none 0 0, .slice none 0 0, .slice none 0 0] 47) = w1 at HF0 HTC ⊢
  go_wp2_with fail
  refine HTC.out.mono ?_
  rintro e w2 ⟨rfl, rfl⟩
  have HF1 := HF0
  clear HTC HF0
  have LOW : ∀ (W : World), RS3 w W q base v L (fun _ => []) (fun _ => .slice none 0 0) v → (ok1 = false ∨ now < at1 ∨ 1099511627776 < now) → RFirePost w q base v t (.returned (.tuple #[.agg #[.slice none 0 0, .slice none 0 0, .slice none 0 0], .bool false])) (((W.setCell ⟨w.heap.size, 0, none⟩ (.slice none 0 0)).setCell ⟨w.heap.size, 1, none⟩ (.slice none 0 0)).setCell ⟨w.heap.size, 2, none⟩ (.slice none 0 0)) := by
    intro W hF hc
    have e : t = (L, fun _ => [], false) := by rw [← HT.out]; unfold fireL; rw [HAT.out, HOK.out, if_pos hc]
    rw [e]
    obtain ⟨-, f1, f2, f3⟩ := hF.fin
    exact ⟨fun _ => .slice none 0 0, v, rfl, f1, f2, fun j b _ e => .inl e, f3⟩
  have c0 := blk_cell HF1.out.box 0
  have c1 := blk_cell HF1.out.box 1
  have c2 := blk_cell HF1.out.box 2
  have d0 := blk_cell HF1.out.res 0
  have d1 := blk_cell HF1.out.res 1
  have d2 := blk_cell HF1.out.res 2
  have f0 := blk_frozen HF1.out.res 0
  have f1 := blk_frozen HF1.out.res 1
  have f2 := blk_frozen HF1.out.res 2
  have HLOW := Lib.hid LOW
  clear LOW
  cases ok1 with
  | false =>
    go_wp2_with fail
    refine bodyPost_ret (ends rfl rfl HF1.out.fin.1) rfl ?_
    exact HLOW.out _ HF1.out (.inl (by first | rfl | trivial))
  | true =>
    by_cases g1 : now < at1
    · go_wp2_with fail
      refine bodyPost_ret (ends rfl rfl HF1.out.fin.1) rfl ?_
      exact HLOW.out _ HF1.out (.inr (.inl g1))
    · by_cases g2 : 1099511627776 < now
      · go_wp2_with fail
        refine bodyPost_ret (ends rfl rfl HF1.out.fin.1) rfl ?_
        exact HLOW.out _ HF1.out (.inr (.inr g2))
      · clear c0 c1 c2 d0 d1 d2 f0 f1 f2 HLOW
        have et : t = if (fireK now L 3).2.2 = true then ((fireK now L 3).1, (fireK now L 3).2.1, false) else ({ (fireK now L 3).1 with tries := (fireK now L 3).1.tries + 1, last := now }, (fireK now L 3).2.1, true) := by
          rw [← HT.out]; unfold fireL; rw [HAT.out, HOK.out, if_neg (by rintro (h | h | h) <;> first | exact g1 h | exact g2 h | cases h)]
        have HET := Lib.hid et
        clear et
        have nb : 0 ≤ now ∧ now ≤ 1099511627776 := ⟨n0, by omega⟩
        have HG := fun k hk => fireK_N HN.out now nb k hk
        have HGN := Lib.hid HG
        clear HG
        go_wp2_with fail
        go_loopw [9, 10] (fun sm j wr => ∃ (k : Nat) (o v' : Nat → Value), k ≤ 3 ∧ j = .int .i64 (k : Int) ∧ sm = .bool (fireK now L k).2.2 ∧ Hid (RS3 w wr q base v (fireK now L k).1 (fireK now L k).2.1 o v')) (fun _ j _ => 3 - (intOf j).toNat)
        case atStart => exact ⟨0, _, _, by omega, rfl, rfl, HF1⟩
        case round =>
          obtain ⟨k, o, v', hk, rfl, rfl, HF⟩ := hrel
          by_cases hk3 : k < 3
          · obtain ⟨-, -, -, d3⟩ := HF.out.led.ways k hk3
            have hkt := (HGN.out k (by omega)).b.timeout k hk3
            have es : fireK now L (k + 1) = if 0 < ((fireK now L k).1.sp k).timeout ∧ ((fireK now L k).1.sp k).timeout ≤ now then (goneL k now (fireK now L k).1, setO (fireK now L k).2.1 k (goneO k now (fireK now L k).1), true) else fireK now L k := rfl
            have GC := rlost_calls HF.out.led (HGN.out k (by omega)).b k hk3 ((HGN.out k (by omega)).fl k hk3) now nb
            obtain ⟨f, hf⟩ : ∃ f, fireK now L k = f := ⟨_, rfl⟩
            rw [hf] at d3 hkt es GC HF ⊢
            obtain ⟨Lk, out, sm⟩ := f
            simp only at d3 hkt es GC HF ⊢
            obtain ⟨tk, htk⟩ : ∃ tk, (Lk.sp k).timeout = tk := ⟨_, rfl⟩
            rw [htk] at d3 hkt es
            have HES := Lib.hid es
            have HGC := Lib.hid GC
            clear GC es hf
            by_cases g3 : 0 < tk
            · by_cases g4 : tk ≤ now
              · have hgt : decide (tk > 0) = true := by simp; omega
                go_wp2_with fail
                refine HGC.out.mono ?_
                rintro e w5 ⟨vl, vs, rfl, L5, R5, S5, K5⟩
                obtain ⟨Al, cl, el, -⟩ := RE_slice R5
                subst el
                have c0 := blk_cell (K5.blk HF.out.box (by have := hpl; omega)) k
                have fz := blk_frozen (K5.blk HF.out.box (by have := hpl; omega)) k
                have cv : (#[o 0, o 1, o 2] : Array Value)[k]? = some (o k) := by rcases three hk3 with rfl | rfl | rfl <;> rfl
                rw [cv] at c0
                obtain ⟨Ak, ck, ek, -⟩ := RE_slice (HF.out.rows k hk3)
                rw [ek] at c0
                have HFn := Lib.hid (HF.out.step hpl k hk3 L5 R5 S5 K5)
                clear L5 R5 S5 K5
                go_wp2_with fail
                go_roundw
                case rel => exact ⟨k + 1, _, _, by omega, by simp, by rw [HES.out, if_pos ⟨g3, g4⟩], by rw [HES.out, if_pos ⟨g3, g4⟩]; exact HFn⟩
                case measure => simp [intOf]; omega
              · go_wp2_with fail
                go_roundw
                case rel => exact ⟨k + 1, o, v', by omega, by simp, by rw [HES.out, if_neg (fun h => g4 h.2)], by rw [HES.out, if_neg (fun h => g4 h.2)]; exact HF⟩
                case measure => simp [intOf]; omega
            · go_wp2_with fail
              go_roundw
              case rel => exact ⟨k + 1, o, v', by omega, by simp, by rw [HES.out, if_neg (fun h => g3 h.1)], by rw [HES.out, if_neg (fun h => g3 h.1)]; exact HF⟩
              case measure => simp [intOf]; omega
          · have e3 : k = 3 := by omega
            subst e3
            have het := HET.out
            have HB3 := Lib.hid (HGN.out 3 (by omega)).b
            obtain ⟨f, hf⟩ : ∃ f, fireK now L 3 = f := ⟨_, rfl⟩
            rw [hf] at het HB3 HF ⊢
            obtain ⟨Lk, out, sm⟩ := f
            simp only at het HB3 HF ⊢
            obtain ⟨A0, c0, e0, -⟩ := RE_slice (HF.out.rows 0 (by omega))
            obtain ⟨A1, c1, e1, -⟩ := RE_slice (HF.out.rows 1 (by omega))
            obtain ⟨A2, c2, e2, -⟩ := RE_slice (HF.out.rows 2 (by omega))
            obtain ⟨n0', hn0⟩ : ∃ n, (out 0).length = n := ⟨_, rfl⟩
            obtain ⟨n1', hn1⟩ : ∃ n, (out 1).length = n := ⟨_, rfl⟩
            obtain ⟨n2', hn2⟩ : ∃ n, (out 2).length = n := ⟨_, rfl⟩
            rw [hn0] at e0
            rw [hn1] at e1
            rw [hn2] at e2
            have HE0 := Lib.hid e0
            have HE1 := Lib.hid e1
            have HE2 := Lib.hid e2
            clear e0 e1 e2
            cases sm with
            | true =>
              rw [if_pos rfl] at het
              have HTT := Lib.hid het
              clear het
              have k0 := blk_cell HF.out.box 0
              have k1 := blk_cell HF.out.box 1
              have k2 := blk_cell HF.out.box 2
              have l0 := blk_cell HF.out.res 0
              have l1 := blk_cell HF.out.res 1
              have l2 := blk_cell HF.out.res 2
              have f0 := blk_frozen HF.out.res 0
              have f1 := blk_frozen HF.out.res 1
              have f2 := blk_frozen HF.out.res 2
              replace k0 := k0.trans (congrArg some HE0.out)
              replace k1 := k1.trans (congrArg some HE1.out)
              replace k2 := k2.trans (congrArg some HE2.out)
              have HFa := Lib.hid HF.out.fin
              rw [HE0.out, HE1.out, HE2.out] at HFa
              go_wp2_with fail
              refine bodyPost_ret (ends rfl rfl HFa.out.1) rfl ?_
              rw [HTT.out]
              exact ⟨o, v', by rw [HE0.out, HE1.out, HE2.out]; rfl, HFa.out.2.1, HFa.out.2.2.1, HF.out.vown, HFa.out.2.2.2⟩
            | false =>
              rw [if_neg (by decide)] at het
              obtain ⟨-, -, -, -, -, -, -, d4⟩ := HF.out.led.rate
              have hlt := HB3.out.tries
              have z4 := HF.out.led.fz 19
              have hwt : IntKind.i64.wrap (Lk.tries + 1) = Lk.tries + 1 := by rw [IntKind.wrap_i64]; omega
              have HTT := Lib.hid het
              clear het
              go_upto_region 16 with fail
              have HFb : Hid (RS3 w (wr.setCell ⟨q, 19, none⟩ (.int .i64 (Lk.tries + 1))) q base v { Lk with tries := Lk.tries + 1 } out o v') := Lib.hid (HF.out.turn hpl (HF.out.led.put 19 (.int .i64 (Lk.tries + 1)) rfl (fun _ _ => rfl)) ((Kp.refl q wr).set 19 (.int .i64 (Lk.tries + 1))))
              generalize wr.setCell ⟨q, 19, none⟩ (.int .i64 (Lk.tries + 1)) = w6 at HFb ⊢
              clear d4 z4
              obtain ⟨-, -, -, -, -, -, d4, -⟩ := HFb.out.led.rate
              have z4 := HFb.out.led.fz 18
              go_upto_region 17 with fail
              have HFc : Hid (RS3 w (w6.setCell ⟨q, 18, none⟩ (.int .u64 now)) q base v { Lk with tries := Lk.tries + 1, last := now } out o v') := Lib.hid (HFb.out.turn hpl (HFb.out.led.put 18 (.int .u64 now) rfl (fun _ _ => rfl)) ((Kp.refl q w6).set 18 (.int .u64 now)))
              generalize w6.setCell ⟨q, 18, none⟩ (.int .u64 now) = w7 at HFc ⊢
              clear d4 z4 HF HFb
              have HF := HFc
              have k0 := blk_cell HF.out.box 0
              have k1 := blk_cell HF.out.box 1
              have k2 := blk_cell HF.out.box 2
              have l0 := blk_cell HF.out.res 0
              have l1 := blk_cell HF.out.res 1
              have l2 := blk_cell HF.out.res 2
              have f0 := blk_frozen HF.out.res 0
              have f1 := blk_frozen HF.out.res 1
              have f2 := blk_frozen HF.out.res 2
              replace k0 := k0.trans (congrArg some HE0.out)
              replace k1 := k1.trans (congrArg some HE1.out)
              replace k2 := k2.trans (congrArg some HE2.out)
              have HFa := Lib.hid HF.out.fin
              rw [HE0.out, HE1.out, HE2.out] at HFa
              go_wp2_with fail
              refine bodyPost_ret (ends rfl rfl HFa.out.1) rfl ?_
              rw [HTT.out]
              exact ⟨o, v', by rw [HE0.out, HE1.out, HE2.out]; rfl, HFa.out.2.1, HFa.out.2.2.1, HF.out.vown, HFa.out.2.2.2⟩
end Go.Proofs.Ytgdboikoejodpaa.RefFire
