/- What is read of a ledger: New, State, Room, Acked. -/
import Derived.Test.YtgdboikoejodpaaRate
namespace Go.Proofs.Ytgdboikoejodpaa.Rd
open Go Go.RowKit Go.Proofs.YtgdboikoejodpaaW.PrintWords Go.Proofs.YtgdboikoejodpaaW.PrintLast Go.Proofs.YtgdboikoejodpaaW.PrintMore Go.Proofs.Ytgdboikoejodpaa.Keep Go.Proofs.Ytgdboikoejodpaa.Led Go.Proofs.Ytgdboikoejodpaa.Rate
attribute [local go_sem] max2_int min2_int max_two min_two max_three min_three max_four min_four
set_option linter.unusedVariables false

theorem sp_cells {w : World} {p base : Nat} {L : Lg} {v : Nat → Value} (h : Led w p base L v) (i : Nat) (hi : i < 3) :
    w.cell? ⟨p, 7 + i * 4, none⟩ = some (v i) ∧ w.cell? ⟨p, 7 + i * 4 + 1, none⟩ = some (.int .u64 (L.sp i).next) ∧ w.cell? ⟨p, 7 + i * 4 + 2, none⟩ = some (.int .u64 (L.sp i).acked) ∧ w.cell? ⟨p, 7 + i * 4 + 3, none⟩ = some (.int .u64 (L.sp i).timeout) := by
  have : i = 0 ∨ i = 1 ∨ i = 2 := by omega
  rcases this with rfl | rfl | rfl
  · exact ⟨blk_cell h.blk 7, blk_cell h.blk 8, blk_cell h.blk 9, blk_cell h.blk 10⟩
  · exact ⟨blk_cell h.blk 11, blk_cell h.blk 12, blk_cell h.blk 13, blk_cell h.blk 14⟩
  · exact ⟨blk_cell h.blk 15, blk_cell h.blk 16, blk_cell h.blk 17, blk_cell h.blk 18⟩
theorem end_cells {w : World} {p base : Nat} {L : Lg} {v : Nat → Value} (h : Led w p base L v) :
    w.cell? ⟨p, 19, none⟩ = some (.int .i64 L.tries) ∧ w.cell? ⟨p, 20, none⟩ = some (.int .u64 L.last) := ⟨blk_cell h.blk 19, blk_cell h.blk 20⟩

theorem results_tmp4 {fn : Func} {t u v x : Tmp} (h : fn.results = #[.tmp t, .tmp u, .tmp v, .tmp x]) (tmps : Array Value) (P : Program) (w : World) :
    (results fn tmps).run P w = .ok (.tuple #[tmps.getD t undef, tmps.getD u undef, tmps.getD v undef, tmps.getD x undef]) w := by
  simp [results, h]

def sp0 : Sp := ⟨[], 0, 0, 0⟩
def newL : Lg := ⟨⟨100, 50, 0, 12000, 4611686018427387903, 0, 0⟩, fun _ => sp0, 0, 0⟩
def v0 : Nat → Value := fun _ => .slice none 0 0

theorem new_calls {w : World} {base : Nat} (hb : base ≤ w.heap.size) :
    Calls Try.prog 11 #[] w fun e w' => ∃ p, e = .returned (.pointer (some ⟨p, 0, none⟩)) ∧ w.heap.size ≤ p ∧ Led w' p base newL v0 ∧ Below w.heap.size w w' := by
  go_enter Try.func11, Try.ntmps11
  go_wp2_with fail
  go_ret
  exact ⟨_, rfl, Nat.le_refl _, ⟨heap_alloc_new _ _, fun i _ => Kd.R_nil _ _ _ _ _, fun _ _ _ _ _ _ h => (nomatch h), hb⟩, Below.alloc (Below.refl _ _) (Nat.le_refl _) _⟩

set_option maxHeartbeats 1000000 in
theorem state_calls {w : World} {p base : Nat} {L : Lg} {v : Nat → Value} (h : Led w p base L v) :
    Calls Try.prog 14 #[.pointer (some ⟨p, 0, none⟩)] w fun e w' => e = .returned (.tuple #[.int .u64 L.r.window, .int .u64 L.r.flight, .int .u64 L.r.smooth, .int .u64 L.r.vary]) ∧ ∃ n, w' = w.drewN n := by
  obtain ⟨k0, k1, k2, k3, k4, k5, k6⟩ := rate_cells h
  clear k2 k4 k6
  go_enter Try.func14, Try.ntmps14
  go_wp2_with fail
  go_quiet (fail)
  go_wp2_with fail
  refine bodyPost_ret (results_tmp4 rfl _ _ _) rfl ?_
  exact ⟨rfl, nq, rfl⟩
def roomL (r : Rt) : Int := r.window - mn r.window r.flight
set_option maxHeartbeats 1000000 in
theorem room_calls {w : World} {p base : Nat} {L : Lg} {v : Nat → Value} (h : Led w p base L v) (hb : RtB L.r) :
    Calls Try.prog 15 #[.pointer (some ⟨p, 0, none⟩)] w fun e w' => e = .returned (.int .u64 (roomL L.r)) ∧ ∃ n, w' = w.drewN n := by
  obtain ⟨k0, k1, k2, k3, k4, k5, k6⟩ := rate_cells h
  obtain ⟨a0, a1⟩ := hb.wi
  obtain ⟨b0, b1⟩ := hb.fl
  clear k0 k1 k2 k4 k6
  go_enter Try.func15, Try.ntmps15
  go_wp2_with fail
  go_quiet (fail)
  go_wp2_with fail
  all_goals (go_ret; refine ⟨ret64 ?_, nq, rfl⟩; unfold roomL mn; (repeat' split) <;> omega)
set_option maxHeartbeats 1000000 in
theorem acked_calls {w : World} {p base : Nat} {L : Lg} {v : Nat → Value} (h : Led w p base L v) (i : Nat) (hi : i < 3) :
    Calls Try.prog 29 #[.pointer (some ⟨p, 0, none⟩), .int .i64 (i : Int)] w fun e w' => e = .returned (.int .u64 (L.sp i).acked) ∧ w' = w := by
  obtain ⟨k0, k1, k2, k3⟩ := sp_cells h i hi
  have i0 : ((i : Int) < 0) = False := eq_false (by omega)
  have i1 : ((i : Int) ≥ 3) = False := eq_false (by omega)
  go_enter Try.func29, Try.ntmps29
  go_wp2_with fail
  all_goals trace_state
  all_goals go_ret
  all_goals exact ⟨rfl, rfl⟩
end Go.Proofs.Ytgdboikoejodpaa.Rd
