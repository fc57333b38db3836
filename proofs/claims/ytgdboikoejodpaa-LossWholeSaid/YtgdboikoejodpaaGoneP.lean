/- gone: what it makes of a space, plainly. -/
import Derived.Test.YtgdboikoejodpaaSplit
namespace Go.Proofs.Ytgdboikoejodpaa.GoneP
open Go Go.RowKit Go.Proofs.YtgdboikoejodpaaW.PrintWords Go.Proofs.YtgdboikoejodpaaW.PrintLast Go.Proofs.YtgdboikoejodpaaW.PrintMore Go.Proofs.Ytgdboikoejodpaa.Keep Go.Proofs.Ytgdboikoejodpaa.Led Go.Proofs.Ytgdboikoejodpaa.Rate Go.Proofs.Ytgdboikoejodpaa.Rd Go.Proofs.Ytgdboikoejodpaa.Timer Go.Proofs.Ytgdboikoejodpaa.LedSp Go.Proofs.Ytgdboikoejodpaa.Drop Go.Proofs.Ytgdboikoejodpaa.In Go.Proofs.Ytgdboikoejodpaa.Split
set_option linter.unusedVariables false

structure G where
  lost : List S
  stay : List S
  r : Rt
  t : Int
def gstep (acked now : Int) (g : G) (x : S) : G :=
  if acked ≤ x.pn then { g with stay := g.stay ++ [x] }
  else if x.pn + 3 < acked ∨ x.time + patR g.r ≤ now then { g with lost := g.lost ++ [x], r := lessR x now g.r }
  else { g with stay := g.stay ++ [x], t := if g.t = 0 ∨ x.time + patR g.r < g.t then x.time + patR g.r else g.t }
def goneG (acked now : Int) (l : List S) (r : Rt) : G := l.foldl (gstep acked now) ⟨[], [], r, 0⟩
theorem goneG_take (acked now : Int) (l : List S) (r : Rt) (k : Nat) (hk : k < l.length) : goneG acked now (l.take (k + 1)) r = gstep acked now (goneG acked now (l.take k) r) (rdS l (k : Int)) := by
  unfold goneG
  rw [List.take_succ_eq_append_getElem hk, List.foldl_append, rdS_in hk]
  rfl
def goneL (i : Nat) (now : Int) (L : Lg) : Lg :=
  setSp { L with r := (goneG (L.sp i).acked now (L.sp i).list L.r).r } i { L.sp i with list := (goneG (L.sp i).acked now (L.sp i).list L.r).stay, timeout := (goneG (L.sp i).acked now (L.sp i).list L.r).t }
def goneO (i : Nat) (now : Int) (L : Lg) : List S := (goneG (L.sp i).acked now (L.sp i).list L.r).lost

abbrev pk (x : S) : Prop := 0 ≤ x.pn ∧ x.pn < 4611686018427387904 ∧ 0 ≤ x.time ∧ x.time ≤ 1099511627776 ∧ 0 ≤ x.size ∧ x.size ≤ 1200
theorem pat_bound {r : Rt} (h : RtB r) : 1 ≤ patR r ∧ patR r ≤ 35184372088832 := by
  have := h.sm; have := h.la
  unfold patR mx
  (repeat' split) <;> omega
theorem less_b {r : Rt} (h : RtB r) {x : S} (hx : pk x) (hf : x.size ≤ r.flight) {now : Int} (hn : 0 ≤ now ∧ now ≤ 1099511627776) : RtB (lessR x now r) ∧ (lessR x now r).flight = r.flight - x.size ∧ (lessR x now r).window ≤ mx r.window 2400 := by
  have h1 := h.wi; have h2 := h.li; have h3 := h.fl; have h4 := h.be
  obtain ⟨-, -, x1, x2, x3, x4⟩ := hx
  unfold lessR mx
  split
  · refine ⟨⟨h.sm, h.va, h.la, ?_, ?_, ?_, ?_⟩, rfl, ?_⟩ <;> simp only [] <;> (repeat' split) <;> omega
  · refine ⟨⟨h.sm, h.va, h.la, ?_, ?_, ?_, ?_⟩, rfl, ?_⟩ <;> simp only [] <;> (repeat' split) <;> omega
/-- What holds of it all along. -/
structure GB (g : G) (l : List S) (r : Rt) : Prop where
  rb : RtB g.r
  tb : 0 ≤ g.t ∧ g.t ≤ 1152921504606846976
  f : g.r.flight = r.flight - sumS g.lost
  s : sumS g.lost + sumS g.stay = sumS l
  n : g.lost.length + g.stay.length = l.length
  wi : g.r.window ≤ mx r.window 2400
  lp : ∀ x ∈ g.lost, x ∈ l
  sp : ∀ x ∈ g.stay, x ∈ l
theorem gstep_b {g : G} {l : List S} {r : Rt} (h : GB g l r) (x : S) (hx : pk x) (acked now : Int) (hn : 0 ≤ now ∧ now ≤ 1099511627776) (hf : sumS l + x.size ≤ r.flight) (hs : 0 ≤ sumS g.stay) : GB (gstep acked now g x) (l ++ [x]) r := by
  have hp := pat_bound h.rb
  have h1 := h.tb; have h2 := h.f; have h3 := h.s; have h4 := h.n; have h5 := h.wi
  have e : sumS (l ++ [x]) = sumS l + x.size := by rw [sumS_append]; simp [sumS]
  have e2 : sumS (g.stay ++ [x]) = sumS g.stay + x.size := by rw [sumS_append]; simp [sumS]
  have e3 : sumS (g.lost ++ [x]) = sumS g.lost + x.size := by rw [sumS_append]; simp [sumS]
  have m1 : ∀ y, y ∈ g.lost → y ∈ l ++ [x] := fun y hy => List.mem_append_left _ (h.lp y hy)
  have m2 : ∀ y, y ∈ g.stay → y ∈ l ++ [x] := fun y hy => List.mem_append_left _ (h.sp y hy)
  have m3 : ∀ (a : List S), (∀ y, y ∈ a → y ∈ l ++ [x]) → ∀ y, y ∈ a ++ [x] → y ∈ l ++ [x] := fun a ha y hy => by
    rcases List.mem_append.1 hy with hy | hy
    · exact ha y hy
    · exact List.mem_append_right _ hy
  unfold gstep
  by_cases c1 : acked ≤ x.pn
  · rw [if_pos c1]
    exact ⟨h.rb, h.tb, h.f, by show sumS g.lost + sumS (g.stay ++ [x]) = _; rw [e, e2]; omega, by simp; omega, h.wi, m1, m3 _ m2⟩
  · rw [if_neg c1]
    by_cases c2 : x.pn + 3 < acked ∨ x.time + patR g.r ≤ now
    · rw [if_pos c2]
      have hg : x.size ≤ g.r.flight := by omega
      obtain ⟨b1, b2, b3⟩ := less_b h.rb hx hg hn
      refine ⟨b1, h.tb, by rw [b2, e3]; omega, by show sumS (g.lost ++ [x]) + sumS g.stay = _; rw [e, e3]; omega, by simp; omega, ?_, m3 _ m1, m2⟩
      refine Int.le_trans b3 ?_
      show mx g.r.window 2400 ≤ _
      unfold mx at h5 ⊢
      split <;> split at h5 <;> split <;> omega
    · rw [if_neg c2]
      obtain ⟨-, -, x1, x2, -, -⟩ := hx
      refine ⟨h.rb, ?_, h.f, by show sumS g.lost + sumS (g.stay ++ [x]) = _; rw [e, e2]; omega, by simp; omega, h.wi, m1, m3 _ m2⟩
      simp only []
      split <;> omega
theorem goneG_b (acked now : Int) (hn : 0 ≤ now ∧ now ≤ 1099511627776) (l : List S) (r : Rt) (hr : RtB r) (hl : ∀ x ∈ l, pk x) (hf : sumS l ≤ r.flight) (k : Nat) (hk : k ≤ l.length) : GB (goneG acked now (l.take k) r) (l.take k) r := by
  induction k with
  | zero => exact ⟨hr, ⟨Int.le_refl _, show (0 : Int) ≤ 1152921504606846976 by decide⟩, by simp [goneG, sumS], by simp [goneG, sumS], by simp [goneG], by simp only [List.take_zero, goneG, List.foldl_nil]; unfold mx; split <;> omega, by simp [goneG], by simp [goneG]⟩
  | succ k ih =>
    have h := ih (by omega)
    have hk' : k < l.length := by omega
    rw [goneG_take _ _ _ _ _ hk']
    have hx := hl _ (rdS_mem hk')
    have h1 := sumS_take l k hk'
    have h2 := sumS_split l (k + 1)
    have h3 := sumS_nonneg (l := l.drop (k + 1)) (fun x hx => (hl x (List.mem_of_mem_drop hx)).2.2.2.2.1)
    have h4 := sumS_nonneg (l := (goneG acked now (l.take k) r).stay) (fun x hx => (hl x (List.mem_of_mem_take (h.sp x hx))).2.2.2.2.1)
    have h5 := gstep_b h (rdS l (k : Int)) hx acked now hn (by omega) h4
    have e : l.take (k + 1) = l.take k ++ [rdS l (k : Int)] := by rw [rdS_in hk']; exact List.take_succ_eq_append_getElem hk'
    rw [e]
    exact h5
end Go.Proofs.Ytgdboikoejodpaa.GoneP
