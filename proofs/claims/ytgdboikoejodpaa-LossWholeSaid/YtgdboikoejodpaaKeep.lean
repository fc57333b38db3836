/- What a call on one block leaves of the world: all other blocks as they were. Plain laws over the model. -/
import Derived.Test.YtgdboikoejodpaaWMore
import Derived.WalkKit
namespace Go.Proofs.Ytgdboikoejodpaa.Keep
open Go Go.RowKit Go.Proofs.YtgdboikoejodpaaW.PrintWords Go.Proofs.YtgdboikoejodpaaW.PrintLast Go.Proofs.YtgdboikoejodpaaW.PrintMore

/-- Of the old blocks at most block p has turned. -/
structure Kp (p : Nat) (w w' : World) : Prop where
  os : w'.os = w.os
  tape : w'.tape = w.tape
  output : w'.output = w.output
  size : w.heap.size ≤ w'.heap.size
  block : ∀ k, k < w.heap.size → k ≠ p → w'.heap[k]? = w.heap[k]?

theorem Kp.refl (p : Nat) (w : World) : Kp p w w := ⟨rfl, rfl, rfl, Nat.le_refl _, fun _ _ _ => rfl⟩
theorem Kp.trans {p : Nat} {a b c : World} (h : Kp p a b) (k : Kp p b c) : Kp p a c :=
  ⟨k.os.trans h.os, k.tape.trans h.tape, k.output.trans h.output, Nat.le_trans h.size k.size, fun i hi hp => (k.block i (Nat.lt_of_lt_of_le hi h.size) hp).trans (h.block i hi hp)⟩
theorem Kp.of_below {p : Nat} {w w' : World} (h : Below w.heap.size w w') : Kp p w w' := ⟨h.os, h.tape, h.output, h.size, fun k hk _ => h.block k hk⟩
theorem Kp.below {p B : Nat} {w0 w w' : World} (k : Kp p w w') (h : Below B w0 w) (hB : B ≤ w.heap.size) (hp : B ≤ p) : Below B w0 w' :=
  h.trans ⟨k.os, k.tape, k.output, k.size, fun i hi => k.block i (by omega) (by omega)⟩
theorem Kp.set {p : Nat} {w w' : World} (h : Kp p w w') (j : Nat) (u : Value) : Kp p w (w'.setCell ⟨p, j, none⟩ u) :=
  ⟨h.os, h.tape, h.output, by simpa [World.setCell] using h.size, fun i hi hp => (Below.heap_setCell w' ⟨p, j, none⟩ u i hp).trans (h.block i hi hp)⟩
theorem Kp.drewN {p : Nat} {w w' : World} (h : Kp p w w') (n : Nat) : Kp p w (w'.drewN n) := ⟨h.os, h.tape, h.output, h.size, h.block⟩
theorem Kp.keepBut {p : Nat} {w w' : World} (h : Kp p w w') : KeepBut w w' p none := ⟨h.size, fun i hi hp _ => h.block i hi hp⟩
theorem Kp.blk {p g : Nat} {w w' : World} {o : Obj} (h : Kp p w w') (hb : w.heap[g]? = some o) (hg : g ≠ p) : w'.heap[g]? = some o := (h.block g (blk_lt hb) hg).trans hb
theorem Kp.R {α : Type} {d : Kd α} {e base p : Nat} {w w' : World} {v : Value} {xs : List α} (k : Kp p w w') (h : d.R e w base (fun _ => True) v xs) (hp : p < base) : d.R e w' base (fun _ => True) v xs :=
  Kd.R_mono (Kd.R_move (Kd.R_bound h) (fun i hi => k.block i hi.2.2.1 (by have := hi.2.1; omega))) (fun _ _ => trivial)

/-- Cells are read as they were where their block is. -/
theorem C_of_block {k : IntKind} {w w' : World} {A : Option Addr} {n : Nat} {xs : List Int} (h : Kd.C (Kd.int k) w A n xs) (hb : ∀ a, A = some a → 0 < n → w'.heap[a.block]? = w.heap[a.block]?) : Kd.C (Kd.int k) w' A n xs := by
  refine ⟨h.1, h.2.1, fun hn => ?_⟩
  obtain ⟨ad, e, hc⟩ := h.2.2 hn
  refine ⟨ad, e, fun j p hj => ?_⟩
  obtain ⟨c, hs, hr, hcell⟩ := hc j p hj
  refine ⟨c, hs, hr, fun i u hu => ?_⟩
  have e1 : (ad.add (j * (Kd.int k).sz + i)).block = ad.block := by unfold Addr.add; split <;> rfl
  rw [World.cell?_of_block (w := w) (by rw [e1]; exact hb ad e hn)]
  exact hcell i u hu

theorem C_lt {k : IntKind} {w : World} {a : Addr} {n : Nat} {xs : List Int} (h : Kd.C (Kd.int k) w (some a) n xs) (hn : 0 < n) : a.block < w.heap.size := by
  obtain ⟨ad, e, hc⟩ := h.2.2 hn
  injection e with e
  subst e
  have hl : 0 < xs.length := by rw [h.1]; exact hn
  obtain ⟨c, hs, hr, hcell⟩ := hc 0 _ (List.getElem?_eq_getElem hl)
  have hc1 : c[0]? = some (Value.int k xs[0]) := by
    have : c = [Value.int k xs[0]] := hr
    rw [this]; rfl
  have := World.block_lt_of_cell? w _ (hcell 0 _ hc1)
  have e1 : (a.add (0 * (Kd.int k).sz + 0)).block = a.block := by unfold Addr.add; split <;> rfl
  rwa [e1] at this

theorem C_keep {k : IntKind} {p : Nat} {w w' : World} {A : Option Addr} {n : Nat} {xs : List Int} (hk : Kp p w w') (h : Kd.C (Kd.int k) w A n xs) (hp : ∀ a, A = some a → 0 < n → a.block ≠ p) : Kd.C (Kd.int k) w' A n xs :=
  C_of_block h (fun a ha hn => hk.block a.block (by subst ha; exact C_lt h hn) (hp a ha hn))

end Go.Proofs.Ytgdboikoejodpaa.Keep
