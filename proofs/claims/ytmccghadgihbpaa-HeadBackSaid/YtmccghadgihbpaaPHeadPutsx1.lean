-- PRINTED BY print.sh 35421559b90ae4d0a3588c463048766b98c2df88dd9212a6774a882060cdf62d: not written by this session
import Derived.Test.YtmccghadgihbpaaPHeadPutsx0
namespace Go.Proofs.Ytmccghadgihbpaa.PHeadPuts
open Go.RowKit Go.Proofs.YtmccghadgihbpaaW.PrintWords Go.Proofs.YtmccghadgihbpaaW.PrintLast Go.Proofs.YtmccghadgihbpaaW.PrintMore
attribute [local go_sem] max2_int min2_int max_two min_two max_three min_three max_four min_four   -- for this text's walks alone
set_option linter.unusedVariables false
set_option linter.unusedSimpArgs false

/-! ### head_Short: function 19 -/
def head_Short.l0 : Nat → Int → Int → Int → Option (Int)
  | 0, _, _, _ => none
  | k + 1, x0, x1, x5 => if x5 < 4 then (if 0 ≤ (wrap64 (8 * x5)) then (if (IntKind.u64.wrap ((IntKind.u64.wrap ((IntKind.u64.wrap (x0 - x1)) * 2)) + 1)) ≥ (shl .u64 1 (wrap64 (8 * x5))) then (head_Short.l0 k x0 x1 (wrap64 (x5 + 1))) else (some x5)) else (none)) else (some x5)
def head_Short.f (k : Nat) (a0 : Int) (a1 : Int) : Option (Int) := head_Short.l0 k a0 a1 1
theorem head_Short.mono_l : ∀ k, (∀ y0 y1 y2, LeO (head_Short.l0 k y0 y1 y2) (head_Short.l0 (k + 1) y0 y1 y2))
  | 0 => fun _ _ _ r h => by simp [head_Short.l0] at h
  | k + 1 => by
    have ih0 := head_Short.mono_l k
    · intro y0 y1 y2
      unfold head_Short.l0
      repeat' first
      | (with_reducible exact ih0 _ _ _)
      | (with_reducible exact LeO.refl _)
      | (with_reducible exact LeO.none _)
      | (with_reducible refine LeO.ite ?_ ?_)
      | (with_reducible refine LeO.bind ?_ (fun _ => ?_))
      | exact ih0 _ _ _
      | exact LeO.none _
      | refine LeO.ite ?_ ?_
      | refine LeO.bind ?_ (fun _ => ?_)
theorem head_Short.mono : ∀ a0 a1 k, LeO (head_Short.f k a0 a1) (head_Short.f (k + 1) a0 a1) := by
  intro a0 a1 k
  have ih0 := head_Short.mono_l k
  unfold head_Short.f
  repeat' first
      | (with_reducible exact ih0 _ _ _)
      | (with_reducible exact LeO.refl _)
      | (with_reducible exact LeO.none _)
      | (with_reducible refine LeO.ite ?_ ?_)
      | (with_reducible refine LeO.bind ?_ (fun _ => ?_))
      | exact ih0 _ _ _
      | exact LeO.none _
      | refine LeO.ite ?_ ?_
      | refine LeO.bind ?_ (fun _ => ?_)
set_option maxHeartbeats 8000000 in
set_option maxRecDepth 100000 in
theorem head_Short.calls (k : Nat) (a0 : Int) (a1 : Int) (r : Int) (w : World) (h : head_Short.f k a0 a1 = some r) :
    Calls Try.prog 19 #[.int .u64 a0, .int .u64 a1] w fun e w' => e = .returned (.int .i64 r) ∧ Drawn0 w w' := by
  have H : (head_Short.l0 k a0 a1 1) = some r := h
  clear h
  have H' := Aside0.mk H
  clear H
  go_enter Try.func19, Try.ntmps19
  go_wp2
  go_loopg [5] k (fun kq v5 w' => ∃ (x5_1 : Int), v5 = .int .i64 x5_1 ∧ Aside0 (head_Short.l0 kq a0 a1 x5_1 = some r) ∧ Aside0 (kq ≤ k) ∧ Drawn0 w w')
  case atStart => exact ⟨(1), (by first | rfl | (simp; done) | (simp [*]; done)), H', ⟨Nat.le_refl _⟩, by repeat (first | exact Drawn0.refl _ | apply Drawn0.step)⟩
  case round =>
    clear H'
    try clear c1
    try clear p2
    obtain ⟨x5_1, rfl, HA, HK1, ⟨m1, rfl⟩⟩ := hrel
    cases gk with
    | zero => exact absurd HA.out (by simp [head_Short.l0])
    | succ k1 =>
      have H := HA.out
      clear HA
      simp only [head_Short.l0] at H
      by_cases c3 : x5_1 < 4
      · rw [if_pos c3] at H
        have c3b0 : decide (x5_1 < 4) = true := decide_eq_true c3
        clear c3
        obtain ⟨ji4, hji4⟩ : ∃ j_ : Int, (wrap64 (8 * x5_1)) = j_ := ⟨_, rfl⟩
        replace H : (if 0 ≤ (ji4) then (if (IntKind.u64.wrap ((IntKind.u64.wrap ((IntKind.u64.wrap (a0 - a1)) * 2)) + 1)) ≥ (shl .u64 1 (ji4)) then (head_Short.l0 k1 a0 a1 (wrap64 (x5_1 + 1))) else (some x5_1)) else (none)) = some r := by first | (rw [hji4] at H; exact H) | (simp only [hji4] at H ⊢; exact H)
        have hji4w : (IntKind.i64.wrap (8 * x5_1)) = ji4 := (i64_w _).trans hji4
        by_cases c5 : 0 ≤ (ji4)
        · rw [if_pos c5] at H
          have c5b0 := eq_true c5
          have c5b1 : decide (0 ≤ (ji4)) = true := decide_eq_true c5
          clear c5
          obtain ⟨ji6, hji6⟩ : ∃ j_ : Int, (shl .u64 1 (ji4)) = j_ := ⟨_, rfl⟩
          replace H : (if (IntKind.u64.wrap ((IntKind.u64.wrap ((IntKind.u64.wrap (a0 - a1)) * 2)) + 1)) ≥ (ji6) then (head_Short.l0 k1 a0 a1 (wrap64 (x5_1 + 1))) else (some x5_1)) = some r := by first | (rw [hji6] at H; exact H) | (simp only [hji6] at H ⊢; exact H)
          have hji6_ : (IntKind.u64.wrap (1 * 2 ^ min (ji4).toNat 64)) = ji6 := hji6
          have hji6z : (ji4) ≤ 64 → (IntKind.u64.wrap (1 * 2 ^ (ji4).toNat)) = ji6 := shl_small hji6
          have hji6u : (IntKind.u64.wrap (2 ^ min (ji4).toNat 64)) = ji6 := by have h_ := hji6_; rw [Int.one_mul] at h_; exact h_
          have hji6v : (ji4) ≤ 64 → (IntKind.u64.wrap (2 ^ (ji4).toNat)) = ji6 := fun hle_ => by have h_ := hji6z hle_; rw [Int.one_mul] at h_; exact h_
          by_cases c7 : (IntKind.u64.wrap ((IntKind.u64.wrap ((IntKind.u64.wrap (a0 - a1)) * 2)) + 1)) ≥ (ji6)
          · rw [if_pos c7] at H
            have c7b0 : decide ((ji6) ≤ (IntKind.u64.wrap ((IntKind.u64.wrap ((IntKind.u64.wrap (a0 - a1)) * 2)) + 1))) = true := decide_eq_true c7
            clear c7
            have H' := Aside0.mk H
            clear H
            go_wp2
            go_roundg k1
            case measure => have := HK1.out; omega
            case rel => exact ⟨(wrap64 (x5_1 + 1)), (by first | rfl | (simp; done) | (simp [*]; done)), H', ⟨by have := HK1.out; omega⟩, by repeat (first | exact Drawn0.refl _ | apply Drawn0.step)⟩
          · rw [if_neg c7] at H
            have c7b0 : decide ((ji6) ≤ (IntKind.u64.wrap ((IntKind.u64.wrap ((IntKind.u64.wrap (a0 - a1)) * 2)) + 1))) = false := decide_eq_false c7
            clear c7
            obtain rfl := Option.some.inj H
            go_wp2
            go_ret
            exact ⟨by first | rfl | (simp; done) | (simp only [← hji4, ← hji6] <;> (first | rfl | simp)) | (simp [*]; done), by repeat (first | exact Drawn0.refl _ | apply Drawn0.step)⟩
        · rw [if_neg c5] at H
          exact absurd H (by simp)
      · rw [if_neg c3] at H
        have c3b0 : decide (x5_1 < 4) = false := decide_eq_false c3
        clear c3
        obtain rfl := Option.some.inj H
        go_wp2
        go_ret
        exact ⟨by first | rfl | (simp; done) | (simp [*]; done), by repeat (first | exact Drawn0.refl _ | apply Drawn0.step)⟩

/-! ### head_Full: function 21 -/
def head_Full.j0 : Nat → Int → Int → Int → Bool → Option (Int)
  | 0, _, _, _, _ => none
  | k + 1, x2, x7, x8, x23 => if x23 = true then (some (IntKind.u64.wrap (x8 + x7))) else (if x8 > (IntKind.u64.wrap (x2 + (IntKind.u64.wrap (Int.tdiv x7 2)))) then (if x8 ≥ x7 then (some (IntKind.u64.wrap (x8 - x7))) else (some x8)) else (some x8))
def head_Full.f (k : Nat) (a0 : Int) (a1 : Int) (a2 : Int) : Option (Int) := if (IntKind.u64.wrap ((Go.bits .or .u64 (Go.bits .andNot .u64 a2 (IntKind.u64.wrap ((IntKind.u64.wrap (2 ^ (8 * (mn (mx a1 1) 4)).toNat)) - 1))) (Go.bits .and .u64 a0 (IntKind.u64.wrap ((IntKind.u64.wrap (2 ^ (8 * (mn (mx a1 1) 4)).toNat)) - 1)))) + (IntKind.u64.wrap (Int.tdiv (IntKind.u64.wrap (2 ^ (8 * (mn (mx a1 1) 4)).toNat)) 2)))) ≤ a2 then (head_Full.j0 k a2 (IntKind.u64.wrap (2 ^ (8 * (mn (mx a1 1) 4)).toNat)) (Go.bits .or .u64 (Go.bits .andNot .u64 a2 (IntKind.u64.wrap ((IntKind.u64.wrap (2 ^ (8 * (mn (mx a1 1) 4)).toNat)) - 1))) (Go.bits .and .u64 a0 (IntKind.u64.wrap ((IntKind.u64.wrap (2 ^ (8 * (mn (mx a1 1) 4)).toNat)) - 1)))) (decide ((Go.bits .or .u64 (Go.bits .andNot .u64 a2 (IntKind.u64.wrap ((IntKind.u64.wrap (2 ^ (8 * (mn (mx a1 1) 4)).toNat)) - 1))) (Go.bits .and .u64 a0 (IntKind.u64.wrap ((IntKind.u64.wrap (2 ^ (8 * (mn (mx a1 1) 4)).toNat)) - 1)))) < (IntKind.u64.wrap (4611686018427387904 - (IntKind.u64.wrap (2 ^ (8 * (mn (mx a1 1) 4)).toNat))))))) else (head_Full.j0 k a2 (IntKind.u64.wrap (2 ^ (8 * (mn (mx a1 1) 4)).toNat)) (Go.bits .or .u64 (Go.bits .andNot .u64 a2 (IntKind.u64.wrap ((IntKind.u64.wrap (2 ^ (8 * (mn (mx a1 1) 4)).toNat)) - 1))) (Go.bits .and .u64 a0 (IntKind.u64.wrap ((IntKind.u64.wrap (2 ^ (8 * (mn (mx a1 1) 4)).toNat)) - 1)))) false)
theorem head_Full.mono_l : ∀ k, (∀ y0 y1 y2 y3, LeO (head_Full.j0 k y0 y1 y2 y3) (head_Full.j0 (k + 1) y0 y1 y2 y3))
  | 0 => fun _ _ _ _ r h => by simp [head_Full.j0] at h
  | k + 1 => by
    have ih0 := head_Full.mono_l k
    · intro y0 y1 y2 y3
      unfold head_Full.j0
      repeat' first
      | (with_reducible exact ih0 _ _ _ _)
      | (with_reducible exact LeO.refl _)
      | (with_reducible exact LeO.none _)
      | (with_reducible refine LeO.ite ?_ ?_)
      | (with_reducible refine LeO.bind ?_ (fun _ => ?_))
      | exact ih0 _ _ _ _
      | exact LeO.none _
      | refine LeO.ite ?_ ?_
      | refine LeO.bind ?_ (fun _ => ?_)
theorem head_Full.mono : ∀ a0 a1 a2 k, LeO (head_Full.f k a0 a1 a2) (head_Full.f (k + 1) a0 a1 a2) := by
  intro a0 a1 a2 k
  have ih0 := head_Full.mono_l k
  unfold head_Full.f
  repeat' first
      | (with_reducible exact ih0 _ _ _ _)
      | (with_reducible exact LeO.refl _)
      | (with_reducible exact LeO.none _)
      | (with_reducible refine LeO.ite ?_ ?_)
      | (with_reducible refine LeO.bind ?_ (fun _ => ?_))
      | exact ih0 _ _ _ _
      | exact LeO.none _
      | refine LeO.ite ?_ ?_
      | refine LeO.bind ?_ (fun _ => ?_)
set_option maxHeartbeats 8000000 in
set_option maxRecDepth 100000 in
theorem head_Full.calls (k : Nat) (a0 : Int) (a1 : Int) (a2 : Int) (r : Int) (w : World) (h : head_Full.f k a0 a1 a2 = some r) :
    Calls Try.prog 21 #[.int .u64 a0, .int .i64 a1, .int .u64 a2] w fun e w' => e = .returned (.int .u64 r) ∧ Below w.heap.size w w' := by
  have HB := Aside0.mk (Below.refl w.heap.size w)
  have H : (if (IntKind.u64.wrap ((Go.bits .or .u64 (Go.bits .andNot .u64 a2 (IntKind.u64.wrap ((IntKind.u64.wrap (2 ^ (8 * (mn (mx a1 1) 4)).toNat)) - 1))) (Go.bits .and .u64 a0 (IntKind.u64.wrap ((IntKind.u64.wrap (2 ^ (8 * (mn (mx a1 1) 4)).toNat)) - 1)))) + (IntKind.u64.wrap (Int.tdiv (IntKind.u64.wrap (2 ^ (8 * (mn (mx a1 1) 4)).toNat)) 2)))) ≤ a2 then (head_Full.j0 k a2 (IntKind.u64.wrap (2 ^ (8 * (mn (mx a1 1) 4)).toNat)) (Go.bits .or .u64 (Go.bits .andNot .u64 a2 (IntKind.u64.wrap ((IntKind.u64.wrap (2 ^ (8 * (mn (mx a1 1) 4)).toNat)) - 1))) (Go.bits .and .u64 a0 (IntKind.u64.wrap ((IntKind.u64.wrap (2 ^ (8 * (mn (mx a1 1) 4)).toNat)) - 1)))) (decide ((Go.bits .or .u64 (Go.bits .andNot .u64 a2 (IntKind.u64.wrap ((IntKind.u64.wrap (2 ^ (8 * (mn (mx a1 1) 4)).toNat)) - 1))) (Go.bits .and .u64 a0 (IntKind.u64.wrap ((IntKind.u64.wrap (2 ^ (8 * (mn (mx a1 1) 4)).toNat)) - 1)))) < (IntKind.u64.wrap (4611686018427387904 - (IntKind.u64.wrap (2 ^ (8 * (mn (mx a1 1) 4)).toNat))))))) else (head_Full.j0 k a2 (IntKind.u64.wrap (2 ^ (8 * (mn (mx a1 1) 4)).toNat)) (Go.bits .or .u64 (Go.bits .andNot .u64 a2 (IntKind.u64.wrap ((IntKind.u64.wrap (2 ^ (8 * (mn (mx a1 1) 4)).toNat)) - 1))) (Go.bits .and .u64 a0 (IntKind.u64.wrap ((IntKind.u64.wrap (2 ^ (8 * (mn (mx a1 1) 4)).toNat)) - 1)))) false)) = some r := h
  clear h
  obtain ⟨ji4, hji4⟩ : ∃ j_ : Int, (mx a1 1) = j_ := ⟨_, rfl⟩
  replace H : (if (IntKind.u64.wrap ((Go.bits .or .u64 (Go.bits .andNot .u64 a2 (IntKind.u64.wrap ((IntKind.u64.wrap (2 ^ (8 * (mn (ji4) 4)).toNat)) - 1))) (Go.bits .and .u64 a0 (IntKind.u64.wrap ((IntKind.u64.wrap (2 ^ (8 * (mn (ji4) 4)).toNat)) - 1)))) + (IntKind.u64.wrap (Int.tdiv (IntKind.u64.wrap (2 ^ (8 * (mn (ji4) 4)).toNat)) 2)))) ≤ a2 then (head_Full.j0 k a2 (IntKind.u64.wrap (2 ^ (8 * (mn (ji4) 4)).toNat)) (Go.bits .or .u64 (Go.bits .andNot .u64 a2 (IntKind.u64.wrap ((IntKind.u64.wrap (2 ^ (8 * (mn (ji4) 4)).toNat)) - 1))) (Go.bits .and .u64 a0 (IntKind.u64.wrap ((IntKind.u64.wrap (2 ^ (8 * (mn (ji4) 4)).toNat)) - 1)))) (decide ((Go.bits .or .u64 (Go.bits .andNot .u64 a2 (IntKind.u64.wrap ((IntKind.u64.wrap (2 ^ (8 * (mn (ji4) 4)).toNat)) - 1))) (Go.bits .and .u64 a0 (IntKind.u64.wrap ((IntKind.u64.wrap (2 ^ (8 * (mn (ji4) 4)).toNat)) - 1)))) < (IntKind.u64.wrap (4611686018427387904 - (IntKind.u64.wrap (2 ^ (8 * (mn (ji4) 4)).toNat))))))) else (head_Full.j0 k a2 (IntKind.u64.wrap (2 ^ (8 * (mn (ji4) 4)).toNat)) (Go.bits .or .u64 (Go.bits .andNot .u64 a2 (IntKind.u64.wrap ((IntKind.u64.wrap (2 ^ (8 * (mn (ji4) 4)).toNat)) - 1))) (Go.bits .and .u64 a0 (IntKind.u64.wrap ((IntKind.u64.wrap (2 ^ (8 * (mn (ji4) 4)).toNat)) - 1)))) false)) = some r := by first | (rw [hji4] at H; exact H) | (simp only [hji4] at H ⊢; exact H)
  (try (have hji4l : 1 ≤ ji4 := by (rw [← hji4]; unfold mx; (repeat' split) <;> omega)))
  (try (have hji4m : 0 ≤ ji4 := by omega))
  have hji4_ : (if a1 < 1 then 1 else a1) = ji4 := hji4
  obtain ⟨ji5, hji5⟩ : ∃ j_ : Int, (mn (ji4) 4) = j_ := ⟨_, rfl⟩
  replace H : (if (IntKind.u64.wrap ((Go.bits .or .u64 (Go.bits .andNot .u64 a2 (IntKind.u64.wrap ((IntKind.u64.wrap (2 ^ (8 * (ji5)).toNat)) - 1))) (Go.bits .and .u64 a0 (IntKind.u64.wrap ((IntKind.u64.wrap (2 ^ (8 * (ji5)).toNat)) - 1)))) + (IntKind.u64.wrap (Int.tdiv (IntKind.u64.wrap (2 ^ (8 * (ji5)).toNat)) 2)))) ≤ a2 then (head_Full.j0 k a2 (IntKind.u64.wrap (2 ^ (8 * (ji5)).toNat)) (Go.bits .or .u64 (Go.bits .andNot .u64 a2 (IntKind.u64.wrap ((IntKind.u64.wrap (2 ^ (8 * (ji5)).toNat)) - 1))) (Go.bits .and .u64 a0 (IntKind.u64.wrap ((IntKind.u64.wrap (2 ^ (8 * (ji5)).toNat)) - 1)))) (decide ((Go.bits .or .u64 (Go.bits .andNot .u64 a2 (IntKind.u64.wrap ((IntKind.u64.wrap (2 ^ (8 * (ji5)).toNat)) - 1))) (Go.bits .and .u64 a0 (IntKind.u64.wrap ((IntKind.u64.wrap (2 ^ (8 * (ji5)).toNat)) - 1)))) < (IntKind.u64.wrap (4611686018427387904 - (IntKind.u64.wrap (2 ^ (8 * (ji5)).toNat))))))) else (head_Full.j0 k a2 (IntKind.u64.wrap (2 ^ (8 * (ji5)).toNat)) (Go.bits .or .u64 (Go.bits .andNot .u64 a2 (IntKind.u64.wrap ((IntKind.u64.wrap (2 ^ (8 * (ji5)).toNat)) - 1))) (Go.bits .and .u64 a0 (IntKind.u64.wrap ((IntKind.u64.wrap (2 ^ (8 * (ji5)).toNat)) - 1)))) false)) = some r := by first | (rw [hji5] at H; exact H) | (simp only [hji5] at H ⊢; exact H)
  have hji5_ : (if 4 < (ji4) then 4 else (ji4)) = ji5 := hji5
  have HC6 := Aside0.mk H
  clear H
  go_enter Try.func21, Try.ntmps21
  go_upto_region 3 with (fail)
  go_cut [23] (fun v23 wc => ∃ (kq : Nat) (x23_5 : Bool), v23 = .bool x23_5 ∧ Aside0 (head_Full.j0 kq a2 (IntKind.u64.wrap (2 ^ (8 * (ji5)).toNat)) (Go.bits .or .u64 (Go.bits .andNot .u64 a2 (IntKind.u64.wrap ((IntKind.u64.wrap (2 ^ (8 * (ji5)).toNat)) - 1))) (Go.bits .and .u64 a0 (IntKind.u64.wrap ((IntKind.u64.wrap (2 ^ (8 * (ji5)).toNat)) - 1)))) x23_5 = some r) ∧ Aside0 (kq ≤ k) ∧ Aside0 (Below w.heap.size w wc))
  case first =>
    have H := HC6.out
    clear HC6
    by_cases c7 : (IntKind.u64.wrap ((Go.bits .or .u64 (Go.bits .andNot .u64 a2 (IntKind.u64.wrap ((IntKind.u64.wrap (2 ^ (8 * (ji5)).toNat)) - 1))) (Go.bits .and .u64 a0 (IntKind.u64.wrap ((IntKind.u64.wrap (2 ^ (8 * (ji5)).toNat)) - 1)))) + (IntKind.u64.wrap (Int.tdiv (IntKind.u64.wrap (2 ^ (8 * (ji5)).toNat)) 2)))) ≤ a2
    · rw [if_pos c7] at H
      have c7b0 : decide ((IntKind.u64.wrap ((Go.bits .or .u64 (Go.bits .andNot .u64 a2 (IntKind.u64.wrap ((IntKind.u64.wrap (2 ^ (8 * (ji5)).toNat)) - 1))) (Go.bits .and .u64 a0 (IntKind.u64.wrap ((IntKind.u64.wrap (2 ^ (8 * (ji5)).toNat)) - 1)))) + (IntKind.u64.wrap (Int.tdiv (IntKind.u64.wrap (2 ^ (8 * (ji5)).toNat)) 2)))) ≤ a2) = true := decide_eq_true c7
      clear c7
      (first | rw [c7b0] | (simp only [i64_w, i32_w]; rw [c7b0]) | skip)
      have H' := Aside0.mk H
      clear H
      go_wp2
      go_meet
      case rel => exact ⟨_, (decide ((Go.bits .or .u64 (Go.bits .andNot .u64 a2 (IntKind.u64.wrap ((IntKind.u64.wrap (2 ^ (8 * (ji5)).toNat)) - 1))) (Go.bits .and .u64 a0 (IntKind.u64.wrap ((IntKind.u64.wrap (2 ^ (8 * (ji5)).toNat)) - 1)))) < (IntKind.u64.wrap (4611686018427387904 - (IntKind.u64.wrap (2 ^ (8 * (ji5)).toNat)))))), (by first | rfl | (simp; done) | (simp only [← hji5] <;> (first | rfl | simp)) | (simp [*]; done)), H', ⟨by first | omega | exact Nat.le_refl _⟩, ⟨by repeat (first | (with_reducible first | exact HB.out | apply below_alloc | apply pw_below_drewN | apply below_drew1) | exact HB.out)⟩⟩
    · rw [if_neg c7] at H
      have c7b0 : decide ((IntKind.u64.wrap ((Go.bits .or .u64 (Go.bits .andNot .u64 a2 (IntKind.u64.wrap ((IntKind.u64.wrap (2 ^ (8 * (ji5)).toNat)) - 1))) (Go.bits .and .u64 a0 (IntKind.u64.wrap ((IntKind.u64.wrap (2 ^ (8 * (ji5)).toNat)) - 1)))) + (IntKind.u64.wrap (Int.tdiv (IntKind.u64.wrap (2 ^ (8 * (ji5)).toNat)) 2)))) ≤ a2) = false := decide_eq_false c7
      clear c7
      (first | rw [c7b0] | (simp only [i64_w, i32_w]; rw [c7b0]) | skip)
      have H' := Aside0.mk H
      clear H
      go_wp2
      go_meet
      case rel => exact ⟨_, (false), (by first | rfl | (simp; done) | (simp [*]; done)), H', ⟨by first | omega | exact Nat.le_refl _⟩, ⟨by repeat (first | (with_reducible first | exact HB.out | apply below_alloc | apply pw_below_drewN | apply below_drew1) | exact HB.out)⟩⟩
  case rest =>
    clear HC6
    try clear c2
    try clear p2
    try clear c7
    try clear c7b0
    obtain ⟨kq, x23_5, rfl, HA, HJ5, HB⟩ := hcut
    cases kq with
    | zero => exact absurd HA.out (by simp [head_Full.j0])
    | succ kj5 =>
      have H := HA.out
      clear HA
      simp only [head_Full.j0] at H
      by_cases c8 : x23_5 = true
      · subst c8
        have H1 : (some (IntKind.u64.wrap ((Go.bits .or .u64 (Go.bits .andNot .u64 a2 (IntKind.u64.wrap ((IntKind.u64.wrap (2 ^ (8 * (ji5)).toNat)) - 1))) (Go.bits .and .u64 a0 (IntKind.u64.wrap ((IntKind.u64.wrap (2 ^ (8 * (ji5)).toNat)) - 1)))) + (IntKind.u64.wrap (2 ^ (8 * (ji5)).toNat))))) = some r := by rw [if_pos rfl] at H; exact H
        clear H
        have H := H1
        clear H1
        obtain rfl := Option.some.inj H
        go_wp2
        go_ret
        exact ⟨by first | rfl | (simp [errW_none, errW_some] <;> rfl) | (simp only [← hji4, ← hji5]; first | rfl | (simp [errW_none, errW_some] <;> rfl)) | (simp [*, errW_none, errW_some] <;> rfl), by repeat (first | (with_reducible first | exact HB.out | apply below_alloc | apply pw_below_drewN | apply below_drew1) | exact HB.out)⟩
      · replace c8 := Bool.eq_false_iff.mpr c8
        subst c8
        have H1 : (if (Go.bits .or .u64 (Go.bits .andNot .u64 a2 (IntKind.u64.wrap ((IntKind.u64.wrap (2 ^ (8 * (ji5)).toNat)) - 1))) (Go.bits .and .u64 a0 (IntKind.u64.wrap ((IntKind.u64.wrap (2 ^ (8 * (ji5)).toNat)) - 1)))) > (IntKind.u64.wrap (a2 + (IntKind.u64.wrap (Int.tdiv (IntKind.u64.wrap (2 ^ (8 * (ji5)).toNat)) 2)))) then (if (Go.bits .or .u64 (Go.bits .andNot .u64 a2 (IntKind.u64.wrap ((IntKind.u64.wrap (2 ^ (8 * (ji5)).toNat)) - 1))) (Go.bits .and .u64 a0 (IntKind.u64.wrap ((IntKind.u64.wrap (2 ^ (8 * (ji5)).toNat)) - 1)))) ≥ (IntKind.u64.wrap (2 ^ (8 * (ji5)).toNat)) then (some (IntKind.u64.wrap ((Go.bits .or .u64 (Go.bits .andNot .u64 a2 (IntKind.u64.wrap ((IntKind.u64.wrap (2 ^ (8 * (ji5)).toNat)) - 1))) (Go.bits .and .u64 a0 (IntKind.u64.wrap ((IntKind.u64.wrap (2 ^ (8 * (ji5)).toNat)) - 1)))) - (IntKind.u64.wrap (2 ^ (8 * (ji5)).toNat))))) else (some (Go.bits .or .u64 (Go.bits .andNot .u64 a2 (IntKind.u64.wrap ((IntKind.u64.wrap (2 ^ (8 * (ji5)).toNat)) - 1))) (Go.bits .and .u64 a0 (IntKind.u64.wrap ((IntKind.u64.wrap (2 ^ (8 * (ji5)).toNat)) - 1)))))) else (some (Go.bits .or .u64 (Go.bits .andNot .u64 a2 (IntKind.u64.wrap ((IntKind.u64.wrap (2 ^ (8 * (ji5)).toNat)) - 1))) (Go.bits .and .u64 a0 (IntKind.u64.wrap ((IntKind.u64.wrap (2 ^ (8 * (ji5)).toNat)) - 1)))))) = some r := by rw [if_neg (show ¬ (false = true) by decide)] at H; exact H
        clear H
        have H := H1
        clear H1
        by_cases c9 : (Go.bits .or .u64 (Go.bits .andNot .u64 a2 (IntKind.u64.wrap ((IntKind.u64.wrap (2 ^ (8 * (ji5)).toNat)) - 1))) (Go.bits .and .u64 a0 (IntKind.u64.wrap ((IntKind.u64.wrap (2 ^ (8 * (ji5)).toNat)) - 1)))) > (IntKind.u64.wrap (a2 + (IntKind.u64.wrap (Int.tdiv (IntKind.u64.wrap (2 ^ (8 * (ji5)).toNat)) 2))))
        · rw [if_pos c9] at H
          have c9b0 : decide ((IntKind.u64.wrap (a2 + (IntKind.u64.wrap (Int.tdiv (IntKind.u64.wrap (2 ^ (8 * (ji5)).toNat)) 2)))) < (Go.bits .or .u64 (Go.bits .andNot .u64 a2 (IntKind.u64.wrap ((IntKind.u64.wrap (2 ^ (8 * (ji5)).toNat)) - 1))) (Go.bits .and .u64 a0 (IntKind.u64.wrap ((IntKind.u64.wrap (2 ^ (8 * (ji5)).toNat)) - 1))))) = true := decide_eq_true c9
          clear c9
          by_cases c10 : (Go.bits .or .u64 (Go.bits .andNot .u64 a2 (IntKind.u64.wrap ((IntKind.u64.wrap (2 ^ (8 * (ji5)).toNat)) - 1))) (Go.bits .and .u64 a0 (IntKind.u64.wrap ((IntKind.u64.wrap (2 ^ (8 * (ji5)).toNat)) - 1)))) ≥ (IntKind.u64.wrap (2 ^ (8 * (ji5)).toNat))
          · rw [if_pos c10] at H
            have c10b0 : decide ((IntKind.u64.wrap (2 ^ (8 * (ji5)).toNat)) ≤ (Go.bits .or .u64 (Go.bits .andNot .u64 a2 (IntKind.u64.wrap ((IntKind.u64.wrap (2 ^ (8 * (ji5)).toNat)) - 1))) (Go.bits .and .u64 a0 (IntKind.u64.wrap ((IntKind.u64.wrap (2 ^ (8 * (ji5)).toNat)) - 1))))) = true := decide_eq_true c10
            clear c10
            obtain rfl := Option.some.inj H
            go_wp2
            go_ret
            exact ⟨by first | rfl | (simp [errW_none, errW_some] <;> rfl) | (simp only [← hji4, ← hji5]; first | rfl | (simp [errW_none, errW_some] <;> rfl)) | (simp [*, errW_none, errW_some] <;> rfl), by repeat (first | (with_reducible first | exact HB.out | apply below_alloc | apply pw_below_drewN | apply below_drew1) | exact HB.out)⟩
          · rw [if_neg c10] at H
            have c10b0 : decide ((IntKind.u64.wrap (2 ^ (8 * (ji5)).toNat)) ≤ (Go.bits .or .u64 (Go.bits .andNot .u64 a2 (IntKind.u64.wrap ((IntKind.u64.wrap (2 ^ (8 * (ji5)).toNat)) - 1))) (Go.bits .and .u64 a0 (IntKind.u64.wrap ((IntKind.u64.wrap (2 ^ (8 * (ji5)).toNat)) - 1))))) = false := decide_eq_false c10
            clear c10
            obtain rfl := Option.some.inj H
            go_wp2
            go_ret
            exact ⟨by first | rfl | (simp [errW_none, errW_some] <;> rfl) | (simp only [← hji4, ← hji5]; first | rfl | (simp [errW_none, errW_some] <;> rfl)) | (simp [*, errW_none, errW_some] <;> rfl), by repeat (first | (with_reducible first | exact HB.out | apply below_alloc | apply pw_below_drewN | apply below_drew1) | exact HB.out)⟩
        · rw [if_neg c9] at H
          have c9b0 : decide ((IntKind.u64.wrap (a2 + (IntKind.u64.wrap (Int.tdiv (IntKind.u64.wrap (2 ^ (8 * (ji5)).toNat)) 2)))) < (Go.bits .or .u64 (Go.bits .andNot .u64 a2 (IntKind.u64.wrap ((IntKind.u64.wrap (2 ^ (8 * (ji5)).toNat)) - 1))) (Go.bits .and .u64 a0 (IntKind.u64.wrap ((IntKind.u64.wrap (2 ^ (8 * (ji5)).toNat)) - 1))))) = false := decide_eq_false c9
          clear c9
          obtain rfl := Option.some.inj H
          go_wp2
          go_ret
          exact ⟨by first | rfl | (simp [errW_none, errW_some] <;> rfl) | (simp only [← hji4, ← hji5]; first | rfl | (simp [errW_none, errW_some] <;> rfl)) | (simp [*, errW_none, errW_some] <;> rfl), by repeat (first | (with_reducible first | exact HB.out | apply below_alloc | apply pw_below_drewN | apply below_drew1) | exact HB.out)⟩

/-! ### skifflaw12_Awake: function 18 -/
def skifflaw12_Awake.f (k : Nat)  : Option (Bool) := (head_Short.f k 5 0).bind fun t101 => (if t101 = 1 then ((head_Short.f k 200 0).bind fun t102 => (if t102 = 2 then ((head_Full.f k 5 1 260).bind fun t103 => (some (t103 == 261))) else (some false))) else (some false))
theorem skifflaw12_Awake.mono : ∀ k, LeO (skifflaw12_Awake.f k ) (skifflaw12_Awake.f (k + 1) ) := by
  intro  k
  unfold skifflaw12_Awake.f
  repeat' first
      | (with_reducible exact head_Full.mono _ _ _ _)
      | (with_reducible exact head_Short.mono _ _ _)
      | (with_reducible exact LeO.refl _)
      | (with_reducible exact LeO.none _)
      | (with_reducible refine LeO.ite ?_ ?_)
      | (with_reducible refine LeO.bind ?_ (fun _ => ?_))
      | exact head_Full.mono _ _ _ _
      | exact head_Short.mono _ _ _
      | exact LeO.none _
      | refine LeO.ite ?_ ?_
      | refine LeO.bind ?_ (fun _ => ?_)
set_option maxHeartbeats 8000000 in
set_option maxRecDepth 100000 in
theorem skifflaw12_Awake.calls (k : Nat)  (r : Bool) (w : World) (h : skifflaw12_Awake.f k  = some r) :
    Calls Try.prog 18 #[] w fun e w' => e = .returned (.bool r) ∧ Below w.heap.size w w' := by
  have HB := Aside0.mk (Below.refl w.heap.size w)
  have H : ((head_Short.f k 5 0).bind fun t101 => (if t101 = 1 then ((head_Short.f k 200 0).bind fun t102 => (if t102 = 2 then ((head_Full.f k 5 1 260).bind fun t103 => (some (t103 == 261))) else (some false))) else (some false))) = some r := h
  clear h
  replace H := Option.bind_eq_some_iff.mp H
  obtain ⟨t101, A10, H⟩ := H
  replace H : (if t101 = 1 then ((head_Short.f k 200 0).bind fun t102 => (if t102 = 2 then ((head_Full.f k 5 1 260).bind fun t103 => (some (t103 == 261))) else (some false))) else (some false)) = some r := H
  have A1 := Aside0.mk A10
  clear A10
  by_cases c2 : t101 = 1
  · rw [if_pos c2] at H
    have c2b0 : (t101 == 1) = true := beq_iff_eq.mpr c2
    have c2b1 : (t101 != 1) = false := bne_eq_false_iff_eq.mpr c2
    clear c2
    replace H := Option.bind_eq_some_iff.mp H
    obtain ⟨t102, A30, H⟩ := H
    replace H : (if t102 = 2 then ((head_Full.f k 5 1 260).bind fun t103 => (some (t103 == 261))) else (some false)) = some r := H
    have A3 := Aside0.mk A30
    clear A30
    by_cases c4 : t102 = 2
    · rw [if_pos c4] at H
      have c4b0 : (t102 == 2) = true := beq_iff_eq.mpr c4
      have c4b1 : (t102 != 2) = false := bne_eq_false_iff_eq.mpr c4
      clear c4
      replace H := Option.bind_eq_some_iff.mp H
      obtain ⟨t103, A50, H⟩ := H
      replace H : (some (t103 == 261)) = some r := H
      have A5 := Aside0.mk A50
      clear A50
      obtain rfl := Option.some.inj H
      go_enter Try.func18, Try.ntmps18
      go_wp2_with (first | ((with_reducible refine gate_callee (f := 19) rfl ?_); refine goesL_ (some 1) rfl rfl Try.func19 (by kernel_rfl) rfl #[.int .u64 5, .int .u64 0] rfl (by (try simp only [List.map_toArray, List.map_cons, List.map_nil]); first | done | rfl | (simp only [List.length_drop, List.length_take]; rfl)) ?_; (with_reducible refine (head_Short.calls k 5 0 t101 _ A1.out).mono ?_); rintro e w' ⟨rfl, ⟨nd, rfl⟩⟩; refine ⟨_, rfl, ?_⟩) | (go_at_call 19; (with_reducible refine (head_Short.calls k 200 0 t102 _ A3.out).mono ?_); rintro e w' ⟨rfl, ⟨nd, rfl⟩⟩) | (go_at_call 21; (with_reducible refine (head_Full.calls k 5 1 260 t103 _ A5.out).mono ?_); rintro e w6 ⟨rfl, hb⟩; have n0_ := Aside0.mk (below_step (by repeat (first | (with_reducible first | exact HB.out | apply below_alloc | apply pw_below_drewN | apply below_drew1) | exact HB.out)) hb); clear HB; have HB := n0_; clear n0_; (try clear hb); (try clear hb2); (try clear hk); (try clear hi)))
      go_ret
      exact ⟨by first | rfl | (simp [errW_none, errW_some] <;> rfl) | (simp [*, errW_none, errW_some] <;> rfl), by repeat (first | (with_reducible first | exact HB.out | apply below_alloc | apply pw_below_drewN | apply below_drew1) | exact HB.out)⟩
    · rw [if_neg c4] at H
      have c4b0 : (t102 == 2) = false := beq_eq_false_iff_ne.mpr c4
      have c4b1 : (t102 != 2) = true := bne_iff_ne.mpr c4
      obtain rfl := Option.some.inj H
      go_enter Try.func18, Try.ntmps18
      go_wp2_with (first | ((with_reducible refine gate_callee (f := 19) rfl ?_); refine goesL_ (some 1) rfl rfl Try.func19 (by kernel_rfl) rfl #[.int .u64 5, .int .u64 0] rfl (by (try simp only [List.map_toArray, List.map_cons, List.map_nil]); first | done | rfl | (simp only [List.length_drop, List.length_take]; rfl)) ?_; (with_reducible refine (head_Short.calls k 5 0 t101 _ A1.out).mono ?_); rintro e w' ⟨rfl, ⟨nd, rfl⟩⟩; refine ⟨_, rfl, ?_⟩) | (go_at_call 19; (with_reducible refine (head_Short.calls k 200 0 t102 _ A3.out).mono ?_); rintro e w' ⟨rfl, ⟨nd, rfl⟩⟩))
      go_ret
      exact ⟨by first | rfl | (simp [errW_none, errW_some] <;> rfl) | (simp [*, errW_none, errW_some] <;> rfl), by repeat (first | (with_reducible first | exact HB.out | apply below_alloc | apply pw_below_drewN | apply below_drew1) | exact HB.out)⟩
  · rw [if_neg c2] at H
    have c2b0 : (t101 == 1) = false := beq_eq_false_iff_ne.mpr c2
    have c2b1 : (t101 != 1) = true := bne_iff_ne.mpr c2
    obtain rfl := Option.some.inj H
    go_enter Try.func18, Try.ntmps18
    go_wp2_with (first | ((with_reducible refine gate_callee (f := 19) rfl ?_); refine goesL_ (some 1) rfl rfl Try.func19 (by kernel_rfl) rfl #[.int .u64 5, .int .u64 0] rfl (by (try simp only [List.map_toArray, List.map_cons, List.map_nil]); first | done | rfl | (simp only [List.length_drop, List.length_take]; rfl)) ?_; (with_reducible refine (head_Short.calls k 5 0 t101 _ A1.out).mono ?_); rintro e w' ⟨rfl, ⟨nd, rfl⟩⟩; refine ⟨_, rfl, ?_⟩))
    go_ret
    exact ⟨by first | rfl | (simp [errW_none, errW_some] <;> rfl) | (simp [*, errW_none, errW_some] <;> rfl), by repeat (first | (with_reducible first | exact HB.out | apply below_alloc | apply pw_below_drewN | apply below_drew1) | exact HB.out)⟩

end Go.Proofs.Ytmccghadgihbpaa.PHeadPuts
