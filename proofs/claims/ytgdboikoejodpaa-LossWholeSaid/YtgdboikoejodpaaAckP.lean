/- Ack: what it makes of a ledger, plainly. -/
import Derived.Test.YtgdboikoejodpaaGone
namespace Go.Proofs.Ytgdboikoejodpaa.AckP
open Go Go.RowKit Go.Proofs.YtgdboikoejodpaaW.PrintWords Go.Proofs.YtgdboikoejodpaaW.PrintLast Go.Proofs.YtgdboikoejodpaaW.PrintMore Go.Proofs.Ytgdboikoejodpaa.Keep Go.Proofs.Ytgdboikoejodpaa.Led Go.Proofs.Ytgdboikoejodpaa.Rate Go.Proofs.Ytgdboikoejodpaa.Rd Go.Proofs.Ytgdboikoejodpaa.Timer Go.Proofs.Ytgdboikoejodpaa.LedSp Go.Proofs.Ytgdboikoejodpaa.Drop Go.Proofs.Ytgdboikoejodpaa.In Go.Proofs.Ytgdboikoejodpaa.Split Go.Proofs.Ytgdboikoejodpaa.GoneP
set_option linter.unusedVariables false

def okQ (next : Int) (x : Q) : Bool := decide (x.lo ≤ x.hi) && decide (x.hi < next)
def topQ (l : List Q) (t : Int) : Int := l.foldl (fun t x => mx t (x.hi + 1)) t
theorem topQ_take (l : List Q) (t : Int) (k : Nat) (hk : k < l.length) : topQ (l.take (k + 1)) t = mx (topQ (l.take k) t) ((rdQ l (k : Int)).hi + 1) := by
  unfold topQ
  rw [List.take_succ_eq_append_getElem hk, List.foldl_append, rdQ_in hk]
  rfl
def gotL (l : List Q) (xs : List S) : List S := xs.filter fun x => l.any (inQ x.pn)
def stayL (l : List Q) (xs : List S) : List S := xs.filter fun x => !l.any (inQ x.pn)
def moreAll (xs : List S) (r : Rt) : Rt := xs.foldl (fun r x => moreR x r) r
theorem moreAll_take (l : List S) (r : Rt) (k : Nat) (hk : k < l.length) : moreAll (l.take (k + 1)) r = moreR (rdS l (k : Int)) (moreAll (l.take k) r) := by
  unfold moreAll
  rw [List.take_succ_eq_append_getElem hk, List.foldl_append, rdS_in hk]
  rfl
def lastS (l : List S) : S := rdS l ((l.length - 1 : Nat) : Int)
/-- The ledger ahead of gone, where something was acknowledged. -/
def midL (i : Nat) (l : List Q) (now : Int) (L : Lg) : Lg :=
  { setSp { L with r := moreAll (gotL l (L.sp i).list) (if (lastS (gotL l (L.sp i).list)).pn + 1 = topQ l (L.sp i).acked then timeR (now - mn now (lastS (gotL l (L.sp i).list)).time) L.r else L.r) } i { L.sp i with list := stayL l (L.sp i).list, acked := topQ l (L.sp i).acked } with tries := 0 }
/-- What Ack answers: acknowledged, lost, the error; the ledger behind. -/
def ackL (i : Nat) (l : List Q) (now : Int) (L : Lg) : List S × List S × Int × Lg :=
  if l.all (okQ (L.sp i).next) = false then ([], [], 45, L)
  else if gotL l (L.sp i).list = [] then ([], [], 0, setSp L i { L.sp i with acked := topQ l (L.sp i).acked })
  else (gotL l (L.sp i).list, goneO i now (midL i l now L), 0, goneL i now (midL i l now L))

theorem more_b {r : Rt} (h : RtB r) {x : S} (hx : pk x) (hf : x.size ≤ r.flight) (hw : r.window + 1440000 ≤ 1125899906842624) : RtB (moreR x r) ∧ (moreR x r).flight = r.flight - x.size ∧ (moreR x r).window ≤ r.window + 1440000 := by
  have h1 := h.wi; have h2 := h.li; have h3 := h.fl; have h4 := h.be
  obtain ⟨-, -, x1, x2, x3, x4⟩ := hx
  have d0 : 0 ≤ 1200 * x.size / r.window := Int.ediv_nonneg (by omega) (by omega)
  have d1 : 1200 * x.size / r.window ≤ 1440000 := Int.le_trans (Int.ediv_le_self _ (by omega)) (by omega)
  generalize hd : 1200 * x.size / r.window = d at d0 d1
  obtain ⟨W, hW⟩ : ∃ W, (if x.time + 1 ≤ r.began then r.window else if r.window < r.limit then r.window + x.size else r.window + d) = W := ⟨_, rfl⟩
  have hb : r.window ≤ W ∧ W ≤ r.window + 1440000 := by
    rw [← hW]
    (repeat' split) <;> omega
  unfold moreR
  rw [hd, hW]
  exact ⟨⟨h.sm, h.va, h.la, ⟨show 0 < W by omega, show W ≤ _ by omega⟩, h.li, ⟨show 0 ≤ r.flight - x.size by omega, show r.flight - x.size ≤ _ by omega⟩, h.be⟩, rfl, hb.2⟩
theorem time_b {r : Rt} (h : RtB r) {n : Int} (hn : 0 ≤ n ∧ n ≤ 1099511627776) : RtB (timeR n r) ∧ (timeR n r).flight = r.flight ∧ (timeR n r).window = r.window := by
  have h1 := h.sm; have h2 := h.va; have h3 := h.la
  unfold timeR
  split
  · refine ⟨⟨?_, ?_, ?_, h.wi, h.li, h.fl, h.be⟩, rfl, rfl⟩ <;> simp only [mx] <;> split <;> omega
  · refine ⟨⟨?_, ?_, ?_, h.wi, h.li, h.fl, h.be⟩, rfl, rfl⟩ <;> simp only [mx, mn] <;> (repeat' split) <;> omega
theorem moreAll_b (l : List S) (r : Rt) (h : RtB r) (hl : ∀ x ∈ l, pk x) (hf : sumS l ≤ r.flight) (hw : r.window + 1440000 * l.length ≤ 1125899906842624) (k : Nat) (hk : k ≤ l.length) :
    RtB (moreAll (l.take k) r) ∧ (moreAll (l.take k) r).flight = r.flight - sumS (l.take k) ∧ (moreAll (l.take k) r).window ≤ r.window + 1440000 * k := by
  induction k with
  | zero => exact ⟨h, by simp [moreAll, sumS], by simp [moreAll]⟩
  | succ k ih =>
    obtain ⟨a, b, c⟩ := ih (by omega)
    have hk' : k < l.length := by omega
    rw [moreAll_take _ _ _ hk']
    have h1 := sumS_take l k hk'
    have h2 := sumS_split l (k + 1)
    have h3 := sumS_nonneg (l := l.drop (k + 1)) (fun x hx => (hl x (List.mem_of_mem_drop hx)).2.2.2.2.1)
    obtain ⟨d, e, f⟩ := more_b a (hl _ (rdS_mem hk')) (by omega) (by omega)
    exact ⟨d, by omega, by omega⟩
theorem sumS_filter (l : List S) (f : S → Bool) : sumS (l.filter f) + sumS (l.filter fun x => !f x) = sumS l := by
  induction l with
  | nil => rfl
  | cons x l ih => cases h : f x <;> simp [List.filter, h, sumS] <;> omega
end Go.Proofs.Ytgdboikoejodpaa.AckP
