/- A ledger's space turns: a field of it, or its list. -/
import Derived.Test.YtgdboikoejodpaaTimer
namespace Go.Proofs.Ytgdboikoejodpaa.LedSp
open Go Go.RowKit Go.Proofs.YtgdboikoejodpaaW.PrintWords Go.Proofs.YtgdboikoejodpaaW.PrintLast Go.Proofs.YtgdboikoejodpaaW.PrintMore Go.Proofs.Ytgdboikoejodpaa.Keep Go.Proofs.Ytgdboikoejodpaa.Led Go.Proofs.Ytgdboikoejodpaa.Rate Go.Proofs.Ytgdboikoejodpaa.Rd Go.Proofs.Ytgdboikoejodpaa.Timer
set_option linter.unusedVariables false

def setSp (L : Lg) (i : Nat) (s : Sp) : Lg := { L with sp := fun k => if k = i then s else L.sp k }
def setV (v : Nat → Value) (i : Nat) (u : Value) : Nat → Value := fun k => if k = i then u else v k
theorem setSp_same (L : Lg) (i : Nat) (s : Sp) : (setSp L i s).sp i = s := by simp [setSp]
theorem setSp_other (L : Lg) (i k : Nat) (s : Sp) (h : k ≠ i) : (setSp L i s).sp k = L.sp k := by simp [setSp, h]
theorem setSp_r (L : Lg) (i : Nat) (s : Sp) : (setSp L i s).r = L.r := rfl
theorem setV_same (v : Nat → Value) (i : Nat) (u : Value) : setV v i u i = u := by simp [setV]
theorem setV_other (v : Nat → Value) (i k : Nat) (u : Value) (h : k ≠ i) : setV v i u k = v k := by simp [setV, h]
theorem setSp_setSp (L : Lg) (i : Nat) (s t : Sp) : setSp (setSp L i s) i t = setSp L i t := by
  unfold setSp
  congr 1
  funext k
  by_cases h : k = i <;> simp [h]

theorem three {i : Nat} (h : i < 3) : i = 0 ∨ i = 1 ∨ i = 2 := by omega
theorem putNext {w : World} {p base : Nat} {L : Lg} {v : Nat → Value} (h : Led w p base L v) (i : Nat) (hi : i < 3) (n : Int) : Led (w.setCell ⟨p, 7 + i * 4 + 1, none⟩ (.int .u64 n)) p base (setSp L i { L.sp i with next := n }) v := by
  refine h.put _ _ ?_ ?_
  · rcases three hi with rfl | rfl | rfl <;> simp [Lg.cells, setSp]
  · intro k hk
    by_cases e : k = i
    · subst e; rw [setSp_same]
    · rw [setSp_other _ _ _ _ e]
theorem putAcked {w : World} {p base : Nat} {L : Lg} {v : Nat → Value} (h : Led w p base L v) (i : Nat) (hi : i < 3) (n : Int) : Led (w.setCell ⟨p, 7 + i * 4 + 2, none⟩ (.int .u64 n)) p base (setSp L i { L.sp i with acked := n }) v := by
  refine h.put _ _ ?_ ?_
  · rcases three hi with rfl | rfl | rfl <;> simp [Lg.cells, setSp]
  · intro k hk
    by_cases e : k = i
    · subst e; rw [setSp_same]
    · rw [setSp_other _ _ _ _ e]
theorem putTimeout {w : World} {p base : Nat} {L : Lg} {v : Nat → Value} (h : Led w p base L v) (i : Nat) (hi : i < 3) (n : Int) : Led (w.setCell ⟨p, 7 + i * 4 + 3, none⟩ (.int .u64 n)) p base (setSp L i { L.sp i with timeout := n }) v := by
  refine h.put _ _ ?_ ?_
  · rcases three hi with rfl | rfl | rfl <;> simp [Lg.cells, setSp]
  · intro k hk
    by_cases e : k = i
    · subst e; rw [setSp_same]
    · rw [setSp_other _ _ _ _ e]
theorem layList {w : World} {p base : Nat} {L : Lg} {v : Nat → Value} (h : Led w p base L v) (i : Nat) (hi : i < 3) (u : Value) (l : List S) (hr : RS w base u l) (hn : u.ownBlock ≠ some p) (ha : ∀ k, k < 3 → k ≠ i → ∀ b, u.ownBlock = some b → (v k).ownBlock ≠ some b) :
    Led (w.setCell ⟨p, 7 + i * 4, none⟩ u) p base (setSp L i { L.sp i with list := l }) (setV v i u) := by
  refine h.lay i (7 + i * 4) hi u ?_ (setV_same _ _ _) (fun k hk hki => setV_other _ _ _ _ hki) (fun k hk hki => by rw [setSp_other _ _ _ _ hki]) (by rw [setSp_same]; exact hr) hn ha
  rcases three hi with rfl | rfl | rfl <;> simp [Lg.cells, setSp, setV]
theorem putTries {w : World} {p base : Nat} {L : Lg} {v : Nat → Value} (h : Led w p base L v) (n : Int) : Led (w.setCell ⟨p, 19, none⟩ (.int .i64 n)) p base { L with tries := n } v :=
  h.put 19 (.int .i64 n) rfl (fun _ _ => rfl)
theorem putLast {w : World} {p base : Nat} {L : Lg} {v : Nat → Value} (h : Led w p base L v) (n : Int) : Led (w.setCell ⟨p, 20, none⟩ (.int .u64 n)) p base { L with last := n } v :=
  h.put 20 (.int .u64 n) rfl (fun _ _ => rfl)
theorem putFlight {w : World} {p base : Nat} {L : Lg} {v : Nat → Value} (h : Led w p base L v) (n : Int) : Led (w.setCell ⟨p, 5, none⟩ (.int .u64 n)) p base { L with r := { L.r with flight := n } } v :=
  h.put 5 (.int .u64 n) rfl (fun _ _ => rfl)
theorem sp_frozen {w : World} {p base : Nat} {L : Lg} {v : Nat → Value} (h : Led w p base L v) (j : Nat) : w.frozen? ⟨p, j, none⟩ = false := blk_frozen h.blk j
/-- A list's slice. -/
theorem row_slice {w : World} {base : Nat} {u : Value} {l : List S} (h : RS w base u l) : ∃ A c, u = Value.slice A l.length c ∧ Kd.C kS w A l.length l := by
  obtain ⟨A, c, e, -, hc⟩ := Kd.R_reads h
  exact ⟨A, c, e, hc⟩

def sumS : List S → Int
  | [] => 0
  | x :: l => x.size + sumS l
theorem sumS_append (a b : List S) : sumS (a ++ b) = sumS a + sumS b := by
  induction a with
  | nil => simp [sumS]
  | cons x l ih => simp [sumS, ih]; omega
theorem sumS_take (l : List S) (k : Nat) (hk : k < l.length) : sumS (l.take (k + 1)) = sumS (l.take k) + (rdS l k).size := by
  rw [List.take_succ_eq_append_getElem hk, sumS_append, rdS_in hk]
  simp [sumS]
theorem sumS_split (l : List S) (k : Nat) : sumS l = sumS (l.take k) + sumS (l.drop k) := by rw [← sumS_append, List.take_append_drop]
theorem sumS_nonneg {l : List S} (h : ∀ x ∈ l, 0 ≤ x.size) : 0 ≤ sumS l := by
  induction l with
  | nil => simp [sumS]
  | cons x l ih =>
    have := ih (fun y hy => h y (List.mem_cons_of_mem _ hy))
    have := h x (List.mem_cons_self ..)
    simp only [sumS]; omega
def dropL (i : Nat) (L : Lg) : Lg := { setSp { L with r := { L.r with flight := L.r.flight - sumS (L.sp i).list } } i { L.sp i with list := [], timeout := 0 } with tries := 0 }
end Go.Proofs.Ytgdboikoejodpaa.LedSp
