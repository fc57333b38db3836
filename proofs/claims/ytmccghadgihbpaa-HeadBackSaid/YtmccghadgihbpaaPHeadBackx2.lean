-- PRINTED BY print.sh 35421559b90ae4d0a3588c463048766b98c2df88dd9212a6774a882060cdf62d: not written by this session
import Derived.Test.YtmccghadgihbpaaPHeadBackx0
namespace Go.Proofs.Ytmccghadgihbpaa.PHeadBack
open Go.RowKit Go.Proofs.YtmccghadgihbpaaW.PrintWords Go.Proofs.YtmccghadgihbpaaW.PrintLast Go.Proofs.YtmccghadgihbpaaW.PrintMore
attribute [local go_sem] max2_int min2_int max_two min_two max_three min_three max_four min_four   -- for this text's walks alone
set_option linter.unusedVariables false
set_option linter.unusedSimpArgs false

/-! ### head_Put: function 23 -/
mutual
def head_Put.j0 : Nat → Int → Int → Int → Bool → Int → List Int → List Int → Option (List Int × Int)
  | 0, _, _, _, _, _, _, _ => none
  | k + 1, x1, x2, x3, x42, x105000, x105001, x105002 => if x42 = true then (some (([] : List Int), 2)) else (if x105000 = 2 then ((some (([Go.bits .or .u8 64 ((wrap64 (x2 - 1)) % 256)] : List Int) : List Int)).bind fun y105 => (if y105.length + x105001.length < 140737488355328 then (head_Put.j1 k x1 x2 (y105 ++ x105001)) else (none))) else (if (x105002.length : Int) = 8 then ((some (([Go.bits .or .u8 (Go.bits .or .u8 192 ((wrap64 (x105000 * 32)) % 256)) ((wrap64 (x2 - 1)) % 256), 0, 0, 0, 1, 8] : List Int) : List Int)).bind fun y111 => (if y111.length + x105001.length < 140737488355328 then ((some (y111 ++ x105001 : List Int)).bind fun y114 => (if y114.length < 140737488355328 then ((some (y114 ++ [8] : List Int)).bind fun y117 => (if y117.length + x105002.length < 140737488355328 then ((some (y117 ++ x105002 : List Int)).bind fun y120 => (if x105000 = 0 then (if y120.length < 140737488355328 then ((some (y120 ++ [0] : List Int)).bind fun y123 => ((some (([Go.bits .or .u8 64 (((wrap64 (x2 + x3)) / 256) % 256), (wrap64 (x2 + x3)) % 256] : List Int) : List Int)).bind fun y126 => (if y123.length + y126.length < 140737488355328 then (head_Put.j1 k x1 x2 (y123 ++ y126)) else (none)))) else (none)) else ((some (([Go.bits .or .u8 64 (((wrap64 (x2 + x3)) / 256) % 256), (wrap64 (x2 + x3)) % 256] : List Int) : List Int)).bind fun y132 => (if y120.length + y132.length < 140737488355328 then (head_Put.j1 k x1 x2 (y120 ++ y132)) else (none))))) else (none))) else (none))) else (none))) else (some (([] : List Int), 2))))
def head_Put.j1 : Nat → Int → Int → List Int → Option (List Int × Int)
  | 0, _, _, _ => none
  | k + 1, x1, x2, x10 => head_Put.l0 k x1 x10 (wrap64 (x2 - 1))
def head_Put.l0 : Nat → Int → List Int → Int → Option (List Int × Int)
  | 0, _, _, _ => none
  | k + 1, x1, x10, x12 => if x12 ≥ 0 then (if 0 ≤ (wrap64 (8 * x12)) then (if x10.length < 140737488355328 then (head_Put.l0 k x1 (x10 ++ [(shr .u64 x1 (wrap64 (8 * x12))) % 256]) (wrap64 (x12 - 1))) else (none)) else (none)) else (some (x10, 0))
end
def head_Put.f (k : Nat) (a0_0 : Int) (l0_1 : List Int) (l0_2 : List Int) (a1 : Int) (a2 : Int) (a3 : Int) : Option (List Int × Int) := if (l0_1.length : Int) = 8 then (if a0_0 < 0 then (head_Put.j0 k a1 a2 a3 true a0_0 l0_1 l0_2) else (if a0_0 ≥ 3 then (head_Put.j0 k a1 a2 a3 true a0_0 l0_1 l0_2) else (if a2 < 1 then (head_Put.j0 k a1 a2 a3 true a0_0 l0_1 l0_2) else (if a2 > 4 then (head_Put.j0 k a1 a2 a3 true a0_0 l0_1 l0_2) else (if a3 < 0 then (head_Put.j0 k a1 a2 a3 true a0_0 l0_1 l0_2) else (head_Put.j0 k a1 a2 a3 (decide (a3 > 1200)) a0_0 l0_1 l0_2)))))) else (head_Put.j0 k a1 a2 a3 true a0_0 l0_1 l0_2)
theorem head_Put.mono_l : ∀ k, (∀ y0 y1 y2 y3 y4 y5 y6, LeO (head_Put.j0 k y0 y1 y2 y3 y4 y5 y6) (head_Put.j0 (k + 1) y0 y1 y2 y3 y4 y5 y6)) ∧ (∀ y0 y1 y2, LeO (head_Put.j1 k y0 y1 y2) (head_Put.j1 (k + 1) y0 y1 y2)) ∧ (∀ y0 y1 y2, LeO (head_Put.l0 k y0 y1 y2) (head_Put.l0 (k + 1) y0 y1 y2))
  | 0 => ⟨fun _ _ _ _ _ _ _ r h => by simp [head_Put.j0] at h, fun _ _ _ r h => by simp [head_Put.j1] at h, fun _ _ _ r h => by simp [head_Put.l0] at h⟩
  | k + 1 => by
    obtain ⟨ih0, ih1, ih2⟩ := head_Put.mono_l k
    refine ⟨?_, ?_, ?_⟩
    · intro y0 y1 y2 y3 y4 y5 y6
      unfold head_Put.j0
      repeat' first
      | (with_reducible exact ih0 _ _ _ _ _ _ _)
      | (with_reducible exact ih1 _ _ _)
      | (with_reducible exact ih2 _ _ _)
      | (with_reducible exact LeO.refl _)
      | (with_reducible exact LeO.none _)
      | (with_reducible refine LeO.ite ?_ ?_)
      | (with_reducible refine LeO.bind ?_ (fun _ => ?_))
      | exact ih0 _ _ _ _ _ _ _
      | exact ih1 _ _ _
      | exact ih2 _ _ _
      | exact LeO.none _
      | refine LeO.ite ?_ ?_
      | refine LeO.bind ?_ (fun _ => ?_)
    · intro y0 y1 y2
      unfold head_Put.j1
      repeat' first
      | (with_reducible exact ih0 _ _ _ _ _ _ _)
      | (with_reducible exact ih1 _ _ _)
      | (with_reducible exact ih2 _ _ _)
      | (with_reducible exact LeO.refl _)
      | (with_reducible exact LeO.none _)
      | (with_reducible refine LeO.ite ?_ ?_)
      | (with_reducible refine LeO.bind ?_ (fun _ => ?_))
      | exact ih0 _ _ _ _ _ _ _
      | exact ih1 _ _ _
      | exact ih2 _ _ _
      | exact LeO.none _
      | refine LeO.ite ?_ ?_
      | refine LeO.bind ?_ (fun _ => ?_)
    · intro y0 y1 y2
      unfold head_Put.l0
      repeat' first
      | (with_reducible exact ih0 _ _ _ _ _ _ _)
      | (with_reducible exact ih1 _ _ _)
      | (with_reducible exact ih2 _ _ _)
      | (with_reducible exact LeO.refl _)
      | (with_reducible exact LeO.none _)
      | (with_reducible refine LeO.ite ?_ ?_)
      | (with_reducible refine LeO.bind ?_ (fun _ => ?_))
      | exact ih0 _ _ _ _ _ _ _
      | exact ih1 _ _ _
      | exact ih2 _ _ _
      | exact LeO.none _
      | refine LeO.ite ?_ ?_
      | refine LeO.bind ?_ (fun _ => ?_)
theorem head_Put.mono : ∀ a0 a1 a2 a3 a4 a5 k, LeO (head_Put.f k a0 a1 a2 a3 a4 a5) (head_Put.f (k + 1) a0 a1 a2 a3 a4 a5) := by
  intro a0 a1 a2 a3 a4 a5 k
  obtain ⟨ih0, ih1, ih2⟩ := head_Put.mono_l k
  unfold head_Put.f
  repeat' first
      | (with_reducible exact ih0 _ _ _ _ _ _ _)
      | (with_reducible exact ih1 _ _ _)
      | (with_reducible exact ih2 _ _ _)
      | (with_reducible exact LeO.refl _)
      | (with_reducible exact LeO.none _)
      | (with_reducible refine LeO.ite ?_ ?_)
      | (with_reducible refine LeO.bind ?_ (fun _ => ?_))
      | exact ih0 _ _ _ _ _ _ _
      | exact ih1 _ _ _
      | exact ih2 _ _ _
      | exact LeO.none _
      | refine LeO.ite ?_ ?_
      | refine LeO.bind ?_ (fun _ => ?_)
set_option maxHeartbeats 8000000 in
set_option maxRecDepth 100000 in
theorem head_Put.calls (k : Nat) (a0_0 : Int) (A0_1 : Option Addr) (c0_1 : Nat) (l0_1 : List Int) (A0_2 : Option Addr) (c0_2 : Nat) (l0_2 : List Int) (a1 : Int) (a2 : Int) (a3 : Int) (r1 : List Int) (r2 : Int) (w : World) (hr0_1 : Kd.C (Kd.int .u8) w A0_1 l0_1.length l0_1) (hc0_1 : l0_1.length ≤ c0_1) (hr0_2 : Kd.C (Kd.int .u8) w A0_2 l0_2.length l0_2) (hc0_2 : l0_2.length ≤ c0_2) (h : head_Put.f k a0_0 l0_1 l0_2 a1 a2 a3 = some (r1, r2)) :
    Calls Try.prog 23 #[.agg #[.int .i64 a0_0, .slice A0_1 l0_1.length c0_1, .slice A0_2 l0_2.length c0_2], .int .u64 a1, .int .i64 a2, .int .i64 a3] w fun e w' => ∃ v0_ : Value, e = .returned (.tuple #[v0_, .int .i64 r2]) ∧ Kd.R (Kd.int .u8) 5 w' w.heap.size (fun _ => True) v0_ r1 ∧ Below w.heap.size w w' := by
  have hu32 := Try.underlying32
  have HR0_1 := Aside0.mk hr0_1
  have HC0_1 := Aside0.mk hc0_1
  clear hr0_1 hc0_1
  have HR0_2 := Aside0.mk hr0_2
  have HC0_2 := Aside0.mk hc0_2
  clear hr0_2 hc0_2
  have HB := Aside0.mk (Below.refl w.heap.size w)
  have H : (if (l0_1.length : Int) = 8 then (if a0_0 < 0 then (head_Put.j0 k a1 a2 a3 true a0_0 l0_1 l0_2) else (if a0_0 ≥ 3 then (head_Put.j0 k a1 a2 a3 true a0_0 l0_1 l0_2) else (if a2 < 1 then (head_Put.j0 k a1 a2 a3 true a0_0 l0_1 l0_2) else (if a2 > 4 then (head_Put.j0 k a1 a2 a3 true a0_0 l0_1 l0_2) else (if a3 < 0 then (head_Put.j0 k a1 a2 a3 true a0_0 l0_1 l0_2) else (head_Put.j0 k a1 a2 a3 (decide (a3 > 1200)) a0_0 l0_1 l0_2)))))) else (head_Put.j0 k a1 a2 a3 true a0_0 l0_1 l0_2)) = some (r1, r2) := h
  clear h
  have HC5 := Aside0.mk H
  clear H
  go_enter Try.func23, Try.ntmps23
  go_upto_region 1 with (first | ((with_reducible refine gate_dst (N := 4) rfl ?_); refine box_event ?hg (N := 4) ?hd (cs := #[.int .i64 a0_0, .slice A0_1 l0_1.length c0_1, .slice A0_2 l0_2.length c0_2]) (t := 32) ?hr ?_; (case hd => rfl); (case hg => rfl); (case hr => first | (go_simp; done) | (go_simp; rfl)); intro gb104 hg w6 hbox hb; have n0_ := Aside0.mk (below_step (by repeat (first | (with_reducible first | exact HB.out | apply below_alloc | apply pw_below_drewN | apply below_drew1) | exact HB.out)) hb); have n1_ := Aside0.mk (hbox); have n2_ := Aside0.mk ((by rw [hg]; exact (below_size (by repeat (first | (with_reducible first | exact HB.out | apply below_alloc | apply pw_below_drewN | apply below_drew1) | exact HB.out))) : w.heap.size ≤ gb104)); have n3_ := Aside0.mk ((by rw [hg]; exact (below_size (by repeat (first | (with_reducible first | exact HB.out | apply below_alloc | apply pw_below_drewN | apply below_drew1) | exact HB.out))) : w.heap.size ≤ gb104)); clear HB; have HB := n0_; have BK104 := n1_; have GW104 := n2_; have GE104 := n3_; clear n0_ n1_ n2_ n3_; clear hb hbox hg))
  (try simp only [Act.put, List.setIfInBounds_toArray, List.set_cons_zero, List.set_cons_succ])
  go_cut [42] (fun v42 wc => ∃ (kq : Nat) (x42_4 : Bool), v42 = .bool x42_4 ∧ Aside0 (head_Put.j0 kq a1 a2 a3 x42_4 a0_0 l0_1 l0_2 = some (r1, r2)) ∧ Aside0 (kq ≤ k) ∧ Aside0 (wc.heap[gb104]? = some (.cells #[.int .i64 a0_0, (.slice A0_1 l0_1.length c0_1), (.slice A0_2 l0_2.length c0_2)] 32 (0, 0))) ∧ Aside0 (Below w.heap.size w wc))
  case first =>
    have H := HC5.out
    clear HC5
    by_cases c7 : (l0_1.length : Int) = 8
    · rw [if_pos c7] at H
      have c7b0 : ((l0_1.length : Int) == 8) = true := beq_iff_eq.mpr c7
      have c7b1 : ((l0_1.length : Int) != 8) = false := bne_eq_false_iff_eq.mpr c7
      clear c7
      (first | rw [c7b0] | (simp only [i64_w, i32_w]; rw [c7b0]) | skip)
      by_cases c8 : a0_0 < 0
      · rw [if_pos c8] at H
        have c8b0 : decide (a0_0 < 0) = true := decide_eq_true c8
        clear c8
        have H' := Aside0.mk H
        clear H
        have hcz9_0 : w6.cell? ⟨gb104, 0, none⟩ = some (.int .i64 a0_0) := (blk_cell BK104.out 0).trans rfl
        have hcz9_1 : w6.cell? ⟨gb104, 1, none⟩ = some (.slice A0_1 l0_1.length c0_1) := (blk_cell BK104.out 1).trans rfl
        have hcz9_2 : w6.cell? ⟨gb104, 2, none⟩ = some (.slice A0_2 l0_2.length c0_2) := (blk_cell BK104.out 2).trans rfl
        have hfz9_0 := blk_frozen BK104.out 0
        have hfz9_1 := blk_frozen BK104.out 1
        have hfz9_2 := blk_frozen BK104.out 2
        go_wp2
        go_meet
        case rel => exact ⟨_, (true), (by first | rfl | (simp; done) | (simp [*]; done)), H', ⟨by first | omega | exact Nat.le_refl _⟩, ⟨by (with_reducible repeat (first | refine blk_drewN ?_ _ | refine blk_drew ?_ | refine blk_alloc ?_ _)); exact BK104.out⟩, ⟨by repeat (first | (with_reducible first | exact HB.out | apply below_alloc | apply pw_below_drewN | apply below_drew1 | refine below_set ?_ GE104.out) | exact HB.out)⟩⟩
      · rw [if_neg c8] at H
        have c8b0 : decide (a0_0 < 0) = false := decide_eq_false c8
        clear c8
        by_cases c10 : a0_0 ≥ 3
        · rw [if_pos c10] at H
          have c10b0 : decide (3 ≤ a0_0) = true := decide_eq_true c10
          clear c10
          have H' := Aside0.mk H
          clear H
          have hcz11_0 : w6.cell? ⟨gb104, 0, none⟩ = some (.int .i64 a0_0) := (blk_cell BK104.out 0).trans rfl
          have hcz11_1 : w6.cell? ⟨gb104, 1, none⟩ = some (.slice A0_1 l0_1.length c0_1) := (blk_cell BK104.out 1).trans rfl
          have hcz11_2 : w6.cell? ⟨gb104, 2, none⟩ = some (.slice A0_2 l0_2.length c0_2) := (blk_cell BK104.out 2).trans rfl
          have hfz11_0 := blk_frozen BK104.out 0
          have hfz11_1 := blk_frozen BK104.out 1
          have hfz11_2 := blk_frozen BK104.out 2
          go_wp2
          go_meet
          case rel => exact ⟨_, (true), (by first | rfl | (simp; done) | (simp [*]; done)), H', ⟨by first | omega | exact Nat.le_refl _⟩, ⟨by (with_reducible repeat (first | refine blk_drewN ?_ _ | refine blk_drew ?_ | refine blk_alloc ?_ _)); exact BK104.out⟩, ⟨by repeat (first | (with_reducible first | exact HB.out | apply below_alloc | apply pw_below_drewN | apply below_drew1 | refine below_set ?_ GE104.out) | exact HB.out)⟩⟩
        · rw [if_neg c10] at H
          have c10b0 : decide (3 ≤ a0_0) = false := decide_eq_false c10
          clear c10
          by_cases c12 : a2 < 1
          · rw [if_pos c12] at H
            have c12b0 : decide (a2 < 1) = true := decide_eq_true c12
            clear c12
            have H' := Aside0.mk H
            clear H
            have hcz13_0 : w6.cell? ⟨gb104, 0, none⟩ = some (.int .i64 a0_0) := (blk_cell BK104.out 0).trans rfl
            have hcz13_1 : w6.cell? ⟨gb104, 1, none⟩ = some (.slice A0_1 l0_1.length c0_1) := (blk_cell BK104.out 1).trans rfl
            have hcz13_2 : w6.cell? ⟨gb104, 2, none⟩ = some (.slice A0_2 l0_2.length c0_2) := (blk_cell BK104.out 2).trans rfl
            have hfz13_0 := blk_frozen BK104.out 0
            have hfz13_1 := blk_frozen BK104.out 1
            have hfz13_2 := blk_frozen BK104.out 2
            go_wp2
            go_meet
            case rel => exact ⟨_, (true), (by first | rfl | (simp; done) | (simp [*]; done)), H', ⟨by first | omega | exact Nat.le_refl _⟩, ⟨by (with_reducible repeat (first | refine blk_drewN ?_ _ | refine blk_drew ?_ | refine blk_alloc ?_ _)); exact BK104.out⟩, ⟨by repeat (first | (with_reducible first | exact HB.out | apply below_alloc | apply pw_below_drewN | apply below_drew1 | refine below_set ?_ GE104.out) | exact HB.out)⟩⟩
          · rw [if_neg c12] at H
            have c12b0 : decide (a2 < 1) = false := decide_eq_false c12
            clear c12
            by_cases c14 : a2 > 4
            · rw [if_pos c14] at H
              have c14b0 : decide (4 < a2) = true := decide_eq_true c14
              clear c14
              have H' := Aside0.mk H
              clear H
              have hcz15_0 : w6.cell? ⟨gb104, 0, none⟩ = some (.int .i64 a0_0) := (blk_cell BK104.out 0).trans rfl
              have hcz15_1 : w6.cell? ⟨gb104, 1, none⟩ = some (.slice A0_1 l0_1.length c0_1) := (blk_cell BK104.out 1).trans rfl
              have hcz15_2 : w6.cell? ⟨gb104, 2, none⟩ = some (.slice A0_2 l0_2.length c0_2) := (blk_cell BK104.out 2).trans rfl
              have hfz15_0 := blk_frozen BK104.out 0
              have hfz15_1 := blk_frozen BK104.out 1
              have hfz15_2 := blk_frozen BK104.out 2
              go_wp2
              go_meet
              case rel => exact ⟨_, (true), (by first | rfl | (simp; done) | (simp [*]; done)), H', ⟨by first | omega | exact Nat.le_refl _⟩, ⟨by (with_reducible repeat (first | refine blk_drewN ?_ _ | refine blk_drew ?_ | refine blk_alloc ?_ _)); exact BK104.out⟩, ⟨by repeat (first | (with_reducible first | exact HB.out | apply below_alloc | apply pw_below_drewN | apply below_drew1 | refine below_set ?_ GE104.out) | exact HB.out)⟩⟩
            · rw [if_neg c14] at H
              have c14b0 : decide (4 < a2) = false := decide_eq_false c14
              clear c14
              by_cases c16 : a3 < 0
              · rw [if_pos c16] at H
                have c16b0 : decide (a3 < 0) = true := decide_eq_true c16
                clear c16
                have H' := Aside0.mk H
                clear H
                have hcz17_0 : w6.cell? ⟨gb104, 0, none⟩ = some (.int .i64 a0_0) := (blk_cell BK104.out 0).trans rfl
                have hcz17_1 : w6.cell? ⟨gb104, 1, none⟩ = some (.slice A0_1 l0_1.length c0_1) := (blk_cell BK104.out 1).trans rfl
                have hcz17_2 : w6.cell? ⟨gb104, 2, none⟩ = some (.slice A0_2 l0_2.length c0_2) := (blk_cell BK104.out 2).trans rfl
                have hfz17_0 := blk_frozen BK104.out 0
                have hfz17_1 := blk_frozen BK104.out 1
                have hfz17_2 := blk_frozen BK104.out 2
                go_wp2
                go_meet
                case rel => exact ⟨_, (true), (by first | rfl | (simp; done) | (simp [*]; done)), H', ⟨by first | omega | exact Nat.le_refl _⟩, ⟨by (with_reducible repeat (first | refine blk_drewN ?_ _ | refine blk_drew ?_ | refine blk_alloc ?_ _)); exact BK104.out⟩, ⟨by repeat (first | (with_reducible first | exact HB.out | apply below_alloc | apply pw_below_drewN | apply below_drew1 | refine below_set ?_ GE104.out) | exact HB.out)⟩⟩
              · rw [if_neg c16] at H
                have c16b0 : decide (a3 < 0) = false := decide_eq_false c16
                clear c16
                have H' := Aside0.mk H
                clear H
                have hcz18_0 : w6.cell? ⟨gb104, 0, none⟩ = some (.int .i64 a0_0) := (blk_cell BK104.out 0).trans rfl
                have hcz18_1 : w6.cell? ⟨gb104, 1, none⟩ = some (.slice A0_1 l0_1.length c0_1) := (blk_cell BK104.out 1).trans rfl
                have hcz18_2 : w6.cell? ⟨gb104, 2, none⟩ = some (.slice A0_2 l0_2.length c0_2) := (blk_cell BK104.out 2).trans rfl
                have hfz18_0 := blk_frozen BK104.out 0
                have hfz18_1 := blk_frozen BK104.out 1
                have hfz18_2 := blk_frozen BK104.out 2
                go_wp2
                go_meet
                case rel => exact ⟨_, (decide (a3 > 1200)), (by first | rfl | (simp; done) | (simp [*]; done)), H', ⟨by first | omega | exact Nat.le_refl _⟩, ⟨by (with_reducible repeat (first | refine blk_drewN ?_ _ | refine blk_drew ?_ | refine blk_alloc ?_ _)); exact BK104.out⟩, ⟨by repeat (first | (with_reducible first | exact HB.out | apply below_alloc | apply pw_below_drewN | apply below_drew1 | refine below_set ?_ GE104.out) | exact HB.out)⟩⟩
    · rw [if_neg c7] at H
      have c7b0 : ((l0_1.length : Int) == 8) = false := beq_eq_false_iff_ne.mpr c7
      have c7b1 : ((l0_1.length : Int) != 8) = true := bne_iff_ne.mpr c7
      (first | rw [c7b0] | (simp only [i64_w, i32_w]; rw [c7b0]) | skip)
      have H' := Aside0.mk H
      clear H
      have hcz19_0 : w6.cell? ⟨gb104, 0, none⟩ = some (.int .i64 a0_0) := (blk_cell BK104.out 0).trans rfl
      have hcz19_1 : w6.cell? ⟨gb104, 1, none⟩ = some (.slice A0_1 l0_1.length c0_1) := (blk_cell BK104.out 1).trans rfl
      have hcz19_2 : w6.cell? ⟨gb104, 2, none⟩ = some (.slice A0_2 l0_2.length c0_2) := (blk_cell BK104.out 2).trans rfl
      have hfz19_0 := blk_frozen BK104.out 0
      have hfz19_1 := blk_frozen BK104.out 1
      have hfz19_2 := blk_frozen BK104.out 2
      go_wp2
      go_meet
      case rel => exact ⟨_, (true), (by first | rfl | (simp; done) | (simp [*]; done)), H', ⟨by first | omega | exact Nat.le_refl _⟩, ⟨by (with_reducible repeat (first | refine blk_drewN ?_ _ | refine blk_drew ?_ | refine blk_alloc ?_ _)); exact BK104.out⟩, ⟨by repeat (first | (with_reducible first | exact HB.out | apply below_alloc | apply pw_below_drewN | apply below_drew1 | refine below_set ?_ GE104.out) | exact HB.out)⟩⟩
  case rest =>
    clear HC5
    try clear c1
    try clear c2
    try clear p2
    try clear c7
    try clear c7b0
    try clear c7b1
    try clear c8
    try clear c8b0
    try clear c10
    try clear c10b0
    try clear c12
    try clear c12b0
    try clear c14
    try clear c14b0
    try clear c16
    try clear c16b0
    try clear hcz11_0
    try clear hcz11_1
    try clear hcz11_2
    try clear hcz13_0
    try clear hcz13_1
    try clear hcz13_2
    try clear hcz15_0
    try clear hcz15_1
    try clear hcz15_2
    try clear hcz17_0
    try clear hcz17_1
    try clear hcz17_2
    try clear hcz18_0
    try clear hcz18_1
    try clear hcz18_2
    try clear hcz19_0
    try clear hcz19_1
    try clear hcz19_2
    try clear hcz9_0
    try clear hcz9_1
    try clear hcz9_2
    try clear hfz11_0
    try clear hfz11_1
    try clear hfz11_2
    try clear hfz13_0
    try clear hfz13_1
    try clear hfz13_2
    try clear hfz15_0
    try clear hfz15_1
    try clear hfz15_2
    try clear hfz17_0
    try clear hfz17_1
    try clear hfz17_2
    try clear hfz18_0
    try clear hfz18_1
    try clear hfz18_2
    try clear hfz19_0
    try clear hfz19_1
    try clear hfz19_2
    try clear hfz9_0
    try clear hfz9_1
    try clear hfz9_2
    obtain ⟨kq, x42_4, rfl, HA, HJ4, BK104, HB⟩ := hcut
    cases kq with
    | zero => exact absurd HA.out (by simp [head_Put.j0])
    | succ kj4 =>
      have H := HA.out
      clear HA
      simp only [head_Put.j0] at H
      by_cases c20 : x42_4 = true
      · subst c20
        have H1 : (some (([] : List Int), 2)) = some (r1, r2) := by rw [if_pos rfl] at H; exact H
        clear H
        have H := H1
        clear H1
        simp only [Option.some.injEq, Prod.mk.injEq] at H
        obtain ⟨rfl, rfl⟩ := H
        go_wp2
        go_ret2
        exact ⟨_, by first | rfl | (simp [errW_none, errW_some] <;> rfl) | (simp [*, errW_none, errW_some] <;> rfl), by first | exact Kd.R_nil _ _ _ _ _ | exact Kd.N_nil _ _ _ _ _ | exact Kd.V_nil _ _ _ _ _ | exact Kd.Q_nil _ _ _ _ _ | exact Kd.S_nil _ _ _ _ _, by repeat (first | (with_reducible first | exact HB.out | apply below_alloc | apply pw_below_drewN | apply below_drew1 | refine below_set ?_ GE104.out) | exact HB.out)⟩
      · replace c20 := Bool.eq_false_iff.mpr c20
        subst c20
        have H1 : (if a0_0 = 2 then ((some (([Go.bits .or .u8 64 ((wrap64 (a2 - 1)) % 256)] : List Int) : List Int)).bind fun y105 => (if y105.length + l0_1.length < 140737488355328 then (head_Put.j1 kj4 a1 a2 (y105 ++ l0_1)) else (none))) else (if (l0_2.length : Int) = 8 then ((some (([Go.bits .or .u8 (Go.bits .or .u8 192 ((wrap64 (a0_0 * 32)) % 256)) ((wrap64 (a2 - 1)) % 256), 0, 0, 0, 1, 8] : List Int) : List Int)).bind fun y111 => (if y111.length + l0_1.length < 140737488355328 then ((some (y111 ++ l0_1 : List Int)).bind fun y114 => (if y114.length < 140737488355328 then ((some (y114 ++ [8] : List Int)).bind fun y117 => (if y117.length + l0_2.length < 140737488355328 then ((some (y117 ++ l0_2 : List Int)).bind fun y120 => (if a0_0 = 0 then (if y120.length < 140737488355328 then ((some (y120 ++ [0] : List Int)).bind fun y123 => ((some (([Go.bits .or .u8 64 (((wrap64 (a2 + a3)) / 256) % 256), (wrap64 (a2 + a3)) % 256] : List Int) : List Int)).bind fun y126 => (if y123.length + y126.length < 140737488355328 then (head_Put.j1 kj4 a1 a2 (y123 ++ y126)) else (none)))) else (none)) else ((some (([Go.bits .or .u8 64 (((wrap64 (a2 + a3)) / 256) % 256), (wrap64 (a2 + a3)) % 256] : List Int) : List Int)).bind fun y132 => (if y120.length + y132.length < 140737488355328 then (head_Put.j1 kj4 a1 a2 (y120 ++ y132)) else (none))))) else (none))) else (none))) else (none))) else (some (([] : List Int), 2)))) = some (r1, r2) := by rw [if_neg (show ¬ (false = true) by decide)] at H; exact H
        clear H
        have H := H1
        clear H1
        have HC21 := Aside0.mk H
        clear H
        have hcz22_0 : wc.cell? ⟨gb104, 0, none⟩ = some (.int .i64 a0_0) := (blk_cell BK104.out 0).trans rfl
        have hcz22_1 : wc.cell? ⟨gb104, 1, none⟩ = some (.slice A0_1 l0_1.length c0_1) := (blk_cell BK104.out 1).trans rfl
        have hcz22_2 : wc.cell? ⟨gb104, 2, none⟩ = some (.slice A0_2 l0_2.length c0_2) := (blk_cell BK104.out 2).trans rfl
        have hfz22_0 := blk_frozen BK104.out 0
        have hfz22_1 := blk_frozen BK104.out 1
        have hfz22_2 := blk_frozen BK104.out 2
        go_upto_if 45 with (fail)
        go_cut [10] (fun v10 wc => ∃ (kq : Nat) (x10_20 : List Int), Aside0 (head_Put.j1 kq a1 a2 x10_20 = some (r1, r2)) ∧ Aside0 (kq ≤ kj4) ∧ Aside0 (Kd.R (Kd.int .u8) 5 wc w.heap.size (fun _ => True) v10 x10_20) ∧ Aside0 (wc.heap[gb104]? = some (.cells #[.int .i64 a0_0, (.slice A0_1 l0_1.length c0_1), (.slice A0_2 l0_2.length c0_2)] 32 (0, 0))) ∧ Aside0 (Below w.heap.size w wc))
        case first =>
          have H := HC21.out
          clear HC21
          by_cases c23 : a0_0 = 2
          · rw [if_pos c23] at H
            have c23b0 : (a0_0 == 2) = true := beq_iff_eq.mpr c23
            have c23b1 : (a0_0 != 2) = false := bne_eq_false_iff_eq.mpr c23
            clear c23
            (first | rw [c23b0] | (simp only [i64_w, i32_w]; rw [c23b0]) | skip)
            obtain ⟨y105, hy105⟩ : ∃ y_ : List Int, y_ = (([Go.bits .or .u8 64 ((wrap64 (a2 - 1)) % 256)] : List Int)) := ⟨_, rfl⟩
            replace H : (if y105.length + l0_1.length < 140737488355328 then (head_Put.j1 kj4 a1 a2 (y105 ++ l0_1)) else (none)) = some (r1, r2) := by first | (rw [hy105]; with_reducible exact H) | (have H2_ := (Option.bind_some _ _).symm.trans H; rw [hy105]; with_reducible exact H2_) | (have H2_ := (Option.bind_some _ _).symm.trans H; with_reducible exact H2_) | with_reducible exact H | (rw [hy105]; exact H) | exact H
            have Ny105 := Aside0.mk hy105
            clear hy105
            by_cases c24 : y105.length + l0_1.length < 140737488355328
            · rw [if_pos c24] at H
              have LMc24 := Aside0.mk c24
              clear c24
              obtain ⟨y108, hy108⟩ : ∃ y_ : List Int, y_ = (y105 ++ l0_1) := ⟨_, rfl⟩
              replace H : (head_Put.j1 kj4 a1 a2 y108) = some (r1, r2) := by first | (rw [hy108]; with_reducible exact H) | (have H2_ := (Option.bind_some _ _).symm.trans H; rw [hy108]; with_reducible exact H2_) | (have H2_ := (Option.bind_some _ _).symm.trans H; with_reducible exact H2_) | with_reducible exact H | (rw [hy108]; exact H) | exact H
              have Ny108 := Aside0.mk hy108
              clear hy108
              have H' := Aside0.mk H
              clear H
              go_wp2_with (first | ((with_reducible refine gate_dst (N := 50) rfl ?_); refine Kd.R_lit (Kd.int .u8) _ 5 ?hg (N := 50) ?hd (xs := ([Go.bits .or .u8 64 ((wrap64 (a2 - 1)) % 256)] : List Int)) (inner := [.int .u8 (Go.bits .or .u8 64 ((wrap64 (a2 - 1)) % 256))]) (ok := fun _ => True) (okp := fun _ => True) ?hr ?hp (fun _ hk => hk) trivial (Below.refl _ _) (Nat.le_refl _) (by simp) ?_; (case hd => rfl); (case hg => rfl); (case hr => first | (go_simp; done) | (go_simp; rfl)); (case hp => exact (Reps.one (show Kd.M (Kd.int .u8) _ _ _ (Go.bits .or .u8 64 ((wrap64 (a2 - 1)) % 256)) [.int .u8 (Go.bits .or .u8 64 ((wrap64 (a2 - 1)) % 256))] from rfl) (Reps.none _ _))); intro v106 w25 ho26 hb hg_ hnew_; clear hg_ hnew_; (first | rw [← Ny105.out] at ho26 | (simp only [Int.reduceToNat] at ho26; rw [← Ny105.out] at ho26)); have n0_ := Aside0.mk (Kd.R_lower ho26 (below_size (by repeat (first | (with_reducible first | exact HB.out | apply below_alloc | apply pw_below_drewN | apply below_drew1 | refine below_set ?_ GE104.out) | exact HB.out)))); have n1_ := Aside0.mk (blk_below (g := gb104) (o := .cells #[.int .i64 a0_0, .slice A0_1 l0_1.length c0_1, .slice A0_2 l0_2.length c0_2] 32 (0, 0)) (by (with_reducible repeat (first | refine blk_drewN ?_ _ | refine blk_drew ?_ | refine blk_alloc ?_ _)); exact BK104.out) hb); have n2_ := Aside0.mk (below_step (by repeat (first | (with_reducible first | exact HB.out | apply below_alloc | apply pw_below_drewN | apply below_drew1 | refine below_set ?_ GE104.out) | exact HB.out)) hb); clear BK104; clear HB; have HO107 := n0_; have BK104 := n1_; have HB := n2_; clear n0_ n1_ n2_; clear hb ho26; have hcz27_0 : w25.cell? ⟨gb104, 0, none⟩ = some (.int .i64 a0_0) := (blk_cell BK104.out 0).trans rfl; have hcz27_1 : w25.cell? ⟨gb104, 1, none⟩ = some (.slice A0_1 l0_1.length c0_1) := (blk_cell BK104.out 1).trans rfl; have hcz27_2 : w25.cell? ⟨gb104, 2, none⟩ = some (.slice A0_2 l0_2.length c0_2) := (blk_cell BK104.out 2).trans rfl; have hfz27_0 := blk_frozen BK104.out 0; have hfz27_1 := blk_frozen BK104.out 1; have hfz27_2 := blk_frozen BK104.out 2) | ((with_reducible refine gate_builtin (b := .append) (xs := #[.tmp 50, .tmp 52]) rfl ?_); at_builtin; refine Kd.R_append_rows (Kd.int .u8) (w0 := w) w.heap.size rfl (.tmp 50) (.tmp 52) 30 5 (.int .u8 0) 1 rfl Try.underlying30 info5 rfl (by decide) (by omega) v106 y105 l0_1 _ _ _ (fun _ => True) (fun _ => False) rfl rfl ?aO ?aR (fun _ _ h => h) (fun _ h => h.elim) ?aF ?aB ?aS ?aL ?_; (case aR => repeat (first | exact (Kd.C_below HR0_1.out HB.out) | (with_reducible refine Kd.C_alloc ?_ _) | (with_reducible refine Kd.C_drewN ?_ _) | (with_reducible refine Kd.C_drew ?_))); (case aB => exact (by repeat (first | (with_reducible first | exact HB.out | apply below_alloc | apply pw_below_drewN | apply below_drew1 | refine below_set ?_ GE104.out) | exact HB.out))); (case aF => exact (fun _ _ => trivial)); (case aO => exact (by (with_reducible repeat (first | apply Kd.R_alloc | apply Kd.R_drewN | apply Kd.R_drew)); exact HO107.out)); (case aS => exact (below_size (by repeat (first | (with_reducible first | exact HB.out | apply below_alloc | apply pw_below_drewN | apply below_drew1 | refine below_set ?_ GE104.out) | exact HB.out)))); (case aL => have := LMc24.out; omega); intro v109 w28 ho hb hg hat; rw [← Ny108.out] at ho; have n0_ := Aside0.mk (blk_grown (g := gb104) (o := .cells #[.int .i64 a0_0, .slice A0_1 l0_1.length c0_1, .slice A0_2 l0_2.length c0_2] 32 (0, 0)) (by (with_reducible repeat (first | refine blk_drewN ?_ _ | refine blk_drew ?_ | refine blk_alloc ?_ _)); exact BK104.out) hg (Kd.R_ne HO107.out BK104.out (by decide))); have n1_ := Aside0.mk (hb); have n2_ := Aside0.mk (ho); clear BK104; clear HB; clear HO107; have BK104 := n0_; have HB := n1_; have HO110 := n2_; clear n0_ n1_ n2_; clear ho hb hg hat))
              go_meet
              case rel => exact ⟨_, (y108), H', ⟨by have := HJ4.out; first | omega | exact Nat.le_refl _⟩, ⟨by (with_reducible repeat (first | apply Kd.R_alloc | apply Kd.R_drewN | apply Kd.R_drew)); exact HO110.out⟩, ⟨by (with_reducible repeat (first | refine blk_drewN ?_ _ | refine blk_drew ?_ | refine blk_alloc ?_ _)); exact BK104.out⟩, ⟨by repeat (first | (with_reducible first | exact HB.out | apply below_alloc | apply pw_below_drewN | apply below_drew1 | refine below_set ?_ GE104.out) | exact HB.out)⟩⟩
            · rw [if_neg c24] at H
              exact absurd H (by simp)
          · rw [if_neg c23] at H
            have c23b0 : (a0_0 == 2) = false := beq_eq_false_iff_ne.mpr c23
            have c23b1 : (a0_0 != 2) = true := bne_iff_ne.mpr c23
            (first | rw [c23b0] | (simp only [i64_w, i32_w]; rw [c23b0]) | skip)
            by_cases c29 : (l0_2.length : Int) = 8
            · rw [if_pos c29] at H
              have c29b0 : ((l0_2.length : Int) == 8) = true := beq_iff_eq.mpr c29
              have c29b1 : ((l0_2.length : Int) != 8) = false := bne_eq_false_iff_eq.mpr c29
              clear c29
              obtain ⟨y111, hy111⟩ : ∃ y_ : List Int, y_ = (([Go.bits .or .u8 (Go.bits .or .u8 192 ((wrap64 (a0_0 * 32)) % 256)) ((wrap64 (a2 - 1)) % 256), 0, 0, 0, 1, 8] : List Int)) := ⟨_, rfl⟩
              replace H : (if y111.length + l0_1.length < 140737488355328 then ((some (y111 ++ l0_1 : List Int)).bind fun y114 => (if y114.length < 140737488355328 then ((some (y114 ++ [8] : List Int)).bind fun y117 => (if y117.length + l0_2.length < 140737488355328 then ((some (y117 ++ l0_2 : List Int)).bind fun y120 => (if a0_0 = 0 then (if y120.length < 140737488355328 then ((some (y120 ++ [0] : List Int)).bind fun y123 => ((some (([Go.bits .or .u8 64 (((wrap64 (a2 + a3)) / 256) % 256), (wrap64 (a2 + a3)) % 256] : List Int) : List Int)).bind fun y126 => (if y123.length + y126.length < 140737488355328 then (head_Put.j1 kj4 a1 a2 (y123 ++ y126)) else (none)))) else (none)) else ((some (([Go.bits .or .u8 64 (((wrap64 (a2 + a3)) / 256) % 256), (wrap64 (a2 + a3)) % 256] : List Int) : List Int)).bind fun y132 => (if y120.length + y132.length < 140737488355328 then (head_Put.j1 kj4 a1 a2 (y120 ++ y132)) else (none))))) else (none))) else (none))) else (none)) = some (r1, r2) := by first | (rw [hy111]; with_reducible exact H) | (have H2_ := (Option.bind_some _ _).symm.trans H; rw [hy111]; with_reducible exact H2_) | (have H2_ := (Option.bind_some _ _).symm.trans H; with_reducible exact H2_) | with_reducible exact H | (rw [hy111]; exact H) | exact H
              have Ny111 := Aside0.mk hy111
              clear hy111
              by_cases c30 : y111.length + l0_1.length < 140737488355328
              · rw [if_pos c30] at H
                have LMc30 := Aside0.mk c30
                clear c30
                obtain ⟨y114, hy114⟩ : ∃ y_ : List Int, y_ = (y111 ++ l0_1) := ⟨_, rfl⟩
                replace H : (if y114.length < 140737488355328 then ((some (y114 ++ [8] : List Int)).bind fun y117 => (if y117.length + l0_2.length < 140737488355328 then ((some (y117 ++ l0_2 : List Int)).bind fun y120 => (if a0_0 = 0 then (if y120.length < 140737488355328 then ((some (y120 ++ [0] : List Int)).bind fun y123 => ((some (([Go.bits .or .u8 64 (((wrap64 (a2 + a3)) / 256) % 256), (wrap64 (a2 + a3)) % 256] : List Int) : List Int)).bind fun y126 => (if y123.length + y126.length < 140737488355328 then (head_Put.j1 kj4 a1 a2 (y123 ++ y126)) else (none)))) else (none)) else ((some (([Go.bits .or .u8 64 (((wrap64 (a2 + a3)) / 256) % 256), (wrap64 (a2 + a3)) % 256] : List Int) : List Int)).bind fun y132 => (if y120.length + y132.length < 140737488355328 then (head_Put.j1 kj4 a1 a2 (y120 ++ y132)) else (none))))) else (none))) else (none)) = some (r1, r2) := by first | (rw [hy114]; with_reducible exact H) | (have H2_ := (Option.bind_some _ _).symm.trans H; rw [hy114]; with_reducible exact H2_) | (have H2_ := (Option.bind_some _ _).symm.trans H; with_reducible exact H2_) | with_reducible exact H | (rw [hy114]; exact H) | exact H
                have Ny114 := Aside0.mk hy114
                clear hy114
                by_cases c31 : y114.length < 140737488355328
                · rw [if_pos c31] at H
                  have LMc31 := Aside0.mk c31
                  clear c31
                  obtain ⟨y117, hy117⟩ : ∃ y_ : List Int, y_ = (y114 ++ [8]) := ⟨_, rfl⟩
                  replace H : (if y117.length + l0_2.length < 140737488355328 then ((some (y117 ++ l0_2 : List Int)).bind fun y120 => (if a0_0 = 0 then (if y120.length < 140737488355328 then ((some (y120 ++ [0] : List Int)).bind fun y123 => ((some (([Go.bits .or .u8 64 (((wrap64 (a2 + a3)) / 256) % 256), (wrap64 (a2 + a3)) % 256] : List Int) : List Int)).bind fun y126 => (if y123.length + y126.length < 140737488355328 then (head_Put.j1 kj4 a1 a2 (y123 ++ y126)) else (none)))) else (none)) else ((some (([Go.bits .or .u8 64 (((wrap64 (a2 + a3)) / 256) % 256), (wrap64 (a2 + a3)) % 256] : List Int) : List Int)).bind fun y132 => (if y120.length + y132.length < 140737488355328 then (head_Put.j1 kj4 a1 a2 (y120 ++ y132)) else (none))))) else (none)) = some (r1, r2) := by first | (rw [hy117]; with_reducible exact H) | (have H2_ := (Option.bind_some _ _).symm.trans H; rw [hy117]; with_reducible exact H2_) | (have H2_ := (Option.bind_some _ _).symm.trans H; with_reducible exact H2_) | with_reducible exact H | (rw [hy117]; exact H) | exact H
                  have Ny117 := Aside0.mk hy117
                  clear hy117
                  by_cases c32 : y117.length + l0_2.length < 140737488355328
                  · rw [if_pos c32] at H
                    have LMc32 := Aside0.mk c32
                    clear c32
                    obtain ⟨y120, hy120⟩ : ∃ y_ : List Int, y_ = (y117 ++ l0_2) := ⟨_, rfl⟩
                    replace H : (if a0_0 = 0 then (if y120.length < 140737488355328 then ((some (y120 ++ [0] : List Int)).bind fun y123 => ((some (([Go.bits .or .u8 64 (((wrap64 (a2 + a3)) / 256) % 256), (wrap64 (a2 + a3)) % 256] : List Int) : List Int)).bind fun y126 => (if y123.length + y126.length < 140737488355328 then (head_Put.j1 kj4 a1 a2 (y123 ++ y126)) else (none)))) else (none)) else ((some (([Go.bits .or .u8 64 (((wrap64 (a2 + a3)) / 256) % 256), (wrap64 (a2 + a3)) % 256] : List Int) : List Int)).bind fun y132 => (if y120.length + y132.length < 140737488355328 then (head_Put.j1 kj4 a1 a2 (y120 ++ y132)) else (none)))) = some (r1, r2) := by first | (rw [hy120]; with_reducible exact H) | (have H2_ := (Option.bind_some _ _).symm.trans H; rw [hy120]; with_reducible exact H2_) | (have H2_ := (Option.bind_some _ _).symm.trans H; with_reducible exact H2_) | with_reducible exact H | (rw [hy120]; exact H) | exact H
                    have Ny120 := Aside0.mk hy120
                    clear hy120
                    by_cases c33 : a0_0 = 0
                    · rw [if_pos c33] at H
                      have c33b0 : (a0_0 == 0) = true := beq_iff_eq.mpr c33
                      have c33b1 : (a0_0 != 0) = false := bne_eq_false_iff_eq.mpr c33
                      clear c33
                      by_cases c34 : y120.length < 140737488355328
                      · rw [if_pos c34] at H
                        have LMc34 := Aside0.mk c34
                        clear c34
                        obtain ⟨y123, hy123⟩ : ∃ y_ : List Int, y_ = (y120 ++ [0]) := ⟨_, rfl⟩
                        replace H : ((some (([Go.bits .or .u8 64 (((wrap64 (a2 + a3)) / 256) % 256), (wrap64 (a2 + a3)) % 256] : List Int) : List Int)).bind fun y126 => (if y123.length + y126.length < 140737488355328 then (head_Put.j1 kj4 a1 a2 (y123 ++ y126)) else (none))) = some (r1, r2) := by first | (rw [hy123]; with_reducible exact H) | (have H2_ := (Option.bind_some _ _).symm.trans H; rw [hy123]; with_reducible exact H2_) | (have H2_ := (Option.bind_some _ _).symm.trans H; with_reducible exact H2_) | with_reducible exact H | (rw [hy123]; exact H) | exact H
                        have Ny123 := Aside0.mk hy123
                        clear hy123
                        obtain ⟨y126, hy126⟩ : ∃ y_ : List Int, y_ = (([Go.bits .or .u8 64 (((wrap64 (a2 + a3)) / 256) % 256), (wrap64 (a2 + a3)) % 256] : List Int)) := ⟨_, rfl⟩
                        replace H : (if y123.length + y126.length < 140737488355328 then (head_Put.j1 kj4 a1 a2 (y123 ++ y126)) else (none)) = some (r1, r2) := by first | (rw [hy126]; with_reducible exact H) | (have H2_ := (Option.bind_some _ _).symm.trans H; rw [hy126]; with_reducible exact H2_) | (have H2_ := (Option.bind_some _ _).symm.trans H; with_reducible exact H2_) | with_reducible exact H | (rw [hy126]; exact H) | exact H
                        have Ny126 := Aside0.mk hy126
                        clear hy126
                        by_cases c35 : y123.length + y126.length < 140737488355328
                        · rw [if_pos c35] at H
                          have LMc35 := Aside0.mk c35
                          clear c35
                          obtain ⟨y129, hy129⟩ : ∃ y_ : List Int, y_ = (y123 ++ y126) := ⟨_, rfl⟩
                          replace H : (head_Put.j1 kj4 a1 a2 y129) = some (r1, r2) := by first | (rw [hy129]; with_reducible exact H) | (have H2_ := (Option.bind_some _ _).symm.trans H; rw [hy129]; with_reducible exact H2_) | (have H2_ := (Option.bind_some _ _).symm.trans H; with_reducible exact H2_) | with_reducible exact H | (rw [hy129]; exact H) | exact H
                          have Ny129 := Aside0.mk hy129
                          clear hy129
                          have H' := Aside0.mk H
                          clear H
                          have hcz36_0 : wc.cell? ⟨gb104, 0, none⟩ = some (.int .i64 a0_0) := (blk_cell BK104.out 0).trans rfl
                          have hcz36_1 : wc.cell? ⟨gb104, 1, none⟩ = some (.slice A0_1 l0_1.length c0_1) := (blk_cell BK104.out 1).trans rfl
                          have hcz36_2 : wc.cell? ⟨gb104, 2, none⟩ = some (.slice A0_2 l0_2.length c0_2) := (blk_cell BK104.out 2).trans rfl
                          have hfz36_0 := blk_frozen BK104.out 0
                          have hfz36_1 := blk_frozen BK104.out 1
                          have hfz36_2 := blk_frozen BK104.out 2
                          try go_wp2_with (first | ((with_reducible refine gate_dst (N := 67) rfl ?_); refine Kd.R_lit (Kd.int .u8) _ 5 ?hg (N := 67) ?hd (xs := ([Go.bits .or .u8 (Go.bits .or .u8 192 ((wrap64 (a0_0 * 32)) % 256)) ((wrap64 (a2 - 1)) % 256), 0, 0, 0, 1, 8] : List Int)) (inner := [.int .u8 (Go.bits .or .u8 (Go.bits .or .u8 192 ((wrap64 (a0_0 * 32)) % 256)) ((wrap64 (a2 - 1)) % 256)), .int .u8 0, .int .u8 0, .int .u8 0, .int .u8 1, .int .u8 8]) (ok := fun _ => True) (okp := fun _ => True) ?hr ?hp (fun _ hk => hk) trivial (Below.refl _ _) (Nat.le_refl _) (by simp) ?_; (case hd => rfl); (case hg => rfl); (case hr => first | (go_simp; done) | (go_simp; rfl)); (case hp => exact (Reps.one (show Kd.M (Kd.int .u8) _ _ _ (Go.bits .or .u8 (Go.bits .or .u8 192 ((wrap64 (a0_0 * 32)) % 256)) ((wrap64 (a2 - 1)) % 256)) [.int .u8 (Go.bits .or .u8 (Go.bits .or .u8 192 ((wrap64 (a0_0 * 32)) % 256)) ((wrap64 (a2 - 1)) % 256))] from rfl) (Reps.one (show Kd.M (Kd.int .u8) _ _ _ 0 [.int .u8 0] from rfl) (Reps.one (show Kd.M (Kd.int .u8) _ _ _ 0 [.int .u8 0] from rfl) (Reps.one (show Kd.M (Kd.int .u8) _ _ _ 0 [.int .u8 0] from rfl) (Reps.one (show Kd.M (Kd.int .u8) _ _ _ 1 [.int .u8 1] from rfl) (Reps.one (show Kd.M (Kd.int .u8) _ _ _ 8 [.int .u8 8] from rfl) (Reps.none _ _)))))))); intro v112 w37 ho38 hb hg_ hnew_; clear hg_ hnew_; (first | rw [← Ny111.out] at ho38 | (simp only [Int.reduceToNat] at ho38; rw [← Ny111.out] at ho38)); have n0_ := Aside0.mk (Kd.R_lower ho38 (below_size (by repeat (first | (with_reducible first | exact HB.out | apply below_alloc | apply pw_below_drewN | apply below_drew1 | refine below_set ?_ GE104.out) | exact HB.out)))); have n1_ := Aside0.mk (blk_below (g := gb104) (o := .cells #[.int .i64 a0_0, .slice A0_1 l0_1.length c0_1, .slice A0_2 l0_2.length c0_2] 32 (0, 0)) (by (with_reducible repeat (first | refine blk_drewN ?_ _ | refine blk_drew ?_ | refine blk_alloc ?_ _)); exact BK104.out) hb); have n2_ := Aside0.mk (below_step (by repeat (first | (with_reducible first | exact HB.out | apply below_alloc | apply pw_below_drewN | apply below_drew1 | refine below_set ?_ GE104.out) | exact HB.out)) hb); clear BK104; clear HB; have HO113 := n0_; have BK104 := n1_; have HB := n2_; clear n0_ n1_ n2_; clear hb ho38; have hcz39_0 : w37.cell? ⟨gb104, 0, none⟩ = some (.int .i64 a0_0) := (blk_cell BK104.out 0).trans rfl; have hcz39_1 : w37.cell? ⟨gb104, 1, none⟩ = some (.slice A0_1 l0_1.length c0_1) := (blk_cell BK104.out 1).trans rfl; have hcz39_2 : w37.cell? ⟨gb104, 2, none⟩ = some (.slice A0_2 l0_2.length c0_2) := (blk_cell BK104.out 2).trans rfl; have hfz39_0 := blk_frozen BK104.out 0; have hfz39_1 := blk_frozen BK104.out 1; have hfz39_2 := blk_frozen BK104.out 2) | ((with_reducible refine gate_builtin (b := .append) (xs := #[.tmp 67, .tmp 69]) rfl ?_); at_builtin; refine Kd.R_append_rows (Kd.int .u8) (w0 := w) w.heap.size rfl (.tmp 67) (.tmp 69) 30 5 (.int .u8 0) 1 rfl Try.underlying30 info5 rfl (by decide) (by omega) v112 y111 l0_1 _ _ _ (fun _ => True) (fun _ => False) rfl rfl ?aO ?aR (fun _ _ h => h) (fun _ h => h.elim) ?aF ?aB ?aS ?aL ?_; (case aR => repeat (first | exact (Kd.C_below HR0_1.out HB.out) | (with_reducible refine Kd.C_alloc ?_ _) | (with_reducible refine Kd.C_drewN ?_ _) | (with_reducible refine Kd.C_drew ?_))); (case aB => exact (by repeat (first | (with_reducible first | exact HB.out | apply below_alloc | apply pw_below_drewN | apply below_drew1 | refine below_set ?_ GE104.out) | exact HB.out))); (case aF => exact (fun _ _ => trivial)); (case aO => exact (by (with_reducible repeat (first | apply Kd.R_alloc | apply Kd.R_drewN | apply Kd.R_drew)); exact HO113.out)); (case aS => exact (below_size (by repeat (first | (with_reducible first | exact HB.out | apply below_alloc | apply pw_below_drewN | apply below_drew1 | refine below_set ?_ GE104.out) | exact HB.out)))); (case aL => have := LMc30.out; omega); intro v115 w40 ho hb hg hat; rw [← Ny114.out] at ho; have n0_ := Aside0.mk (blk_grown (g := gb104) (o := .cells #[.int .i64 a0_0, .slice A0_1 l0_1.length c0_1, .slice A0_2 l0_2.length c0_2] 32 (0, 0)) (by (with_reducible repeat (first | refine blk_drewN ?_ _ | refine blk_drew ?_ | refine blk_alloc ?_ _)); exact BK104.out) hg (Kd.R_ne HO113.out BK104.out (by decide))); have n1_ := Aside0.mk (hb); have n2_ := Aside0.mk (ho); clear BK104; clear HB; clear HO113; have BK104 := n0_; have HB := n1_; have HO116 := n2_; clear n0_ n1_ n2_; clear ho hb hg hat))
                          have n0_ := Aside0.mk (Kd.R_drew HO116.out)
                          have n1_ := Aside0.mk (blk_drew BK104.out)
                          have n2_ := Aside0.mk (below_drew1 HB.out)
                          clear HO116
                          clear BK104
                          clear HB
                          have HO116 := n0_
                          have BK104 := n1_
                          have HB := n2_
                          clear n0_ n1_ n2_
                          refine start_ (n := 7) (S := fun w' => w'.cell? ⟨gb104, 0, none⟩ = some (.int .i64 a0_0) ∧ w'.cell? ⟨gb104, 1, none⟩ = some (.slice A0_1 l0_1.length c0_1) ∧ w'.cell? ⟨gb104, 2, none⟩ = some (.slice A0_2 l0_2.length c0_2)) (ds := []) #[false, false, false, false, false, false, false] (by kernel_rfl) rfl rfl ⟨(blk_cell BK104.out 0).trans rfl, (blk_cell BK104.out 1).trans rfl, (blk_cell BK104.out 2).trans rfl⟩ (fun hHeld => ?_)
                          generalize w40.drew = w41 at HO116 BK104 HB hHeld ⊢
                          refine pure_ (i := 0) (N := some 71) (v := ?_) (a' := ?_) #[true, false, false, false, false, false, false] rfl rfl (by kernel_rfl) (fun _ _ _ h => h) (Or.inl ⟨by rfl, ?_⟩) ?_ ?_
                          rotate_left
                          · intro w'
                            go_simp
                            with_reducible rfl
                          rotate_left
                          · simp only [Act.put, List.setIfInBounds_toArray, List.set_cons_zero, List.set_cons_succ, i64_w, i32_w]
                            rfl
                          refine pure_ (i := 3) (N := some 74) (v := ?_) (a' := ?_) #[true, false, false, true, false, false, false] rfl rfl (by kernel_rfl) (fun _ _ _ h => h) (Or.inl ⟨by rfl, ?_⟩) ?_ ?_
                          rotate_left
                          · intro w'
                            go_simp
                            with_reducible rfl
                          rotate_left
                          · simp only [Act.put, List.setIfInBounds_toArray, List.set_cons_zero, List.set_cons_succ, i64_w, i32_w]
                            rfl
                          refine take_ (i := 4) (N := some 75) (v := ?_) (a' := ?_) #[true, false, false, true, true, false, false] rfl rfl (by kernel_rfl) (fun _ _ _ h => h) (Or.inl ⟨by rfl, ?_⟩) hHeld ?_ ?_
                          rotate_left
                          · rintro w' ⟨s0, s1, s2⟩
                            go_simp
                            with_reducible rfl
                          rotate_left
                          · simp only [Act.put, List.setIfInBounds_toArray, List.set_cons_zero, List.set_cons_succ, i64_w, i32_w]
                            rfl
                          refine one_ (i := 1) (N := some 72) #[true, true, false, true, true, false, false] rfl rfl (by kernel_rfl) (by decide) (fun K hK => ?_)
                          refine value_ (w1 := ?_) (v := ?_) (by rfl) rfl ?_ ?_
                          rotate_left 2
                          · go_simp
                            constructor
                            · rfl
                            · rfl
                          refine hK.out _ _ ⟨(blk_cell (blk_alloc BK104.out _) 0).trans rfl, (blk_cell (blk_alloc BK104.out _) 1).trans rfl, (blk_cell (blk_alloc BK104.out _) 2).trans rfl⟩ (fun hHeld => ?_)
                          clear hK K
                          refine norm_ (a' := ?_) ?_ ?_
                          rotate_left
                          · show Act.put _ (some 72) _ = _
                            simp only [Act.put, List.setIfInBounds_toArray, List.set_cons_zero, List.set_cons_succ, i64_w, i32_w]
                            rfl
                          refine one_ (i := 2) (N := some 73) #[true, true, true, true, true, false, false] rfl rfl (by kernel_rfl) (by decide) (fun K hK => ?_)
                          refine Kd.R_append_step (Kd.int .u8) (w0 := w) w.heap.size (by rfl) (.tmp 71) (.tmp 72) 30 5 (.int .u8 0) 1 rfl Try.underlying30 info5 rfl (by decide) (by omega) v115 y114 8 [.int .u8 8] (fun _ => True) (fun _ => False) rfl rfl ?aP (fun _ hk => hk.elim) ?aF ?aO ?aB ?aS ?aL ?_
                          (case aP => exact rfl)
                          (case aB => exact (by repeat (first | (with_reducible first | exact HB.out | apply below_alloc | apply pw_below_drewN | apply below_drew1 | refine below_set ?_ GE104.out) | exact HB.out)))
                          (case aF => exact (fun _ _ => trivial))
                          (case aO => exact (by (with_reducible repeat (first | apply Kd.R_alloc | apply Kd.R_drewN | apply Kd.R_drew)); exact HO116.out))
                          (case aS => exact (below_size (by repeat (first | (with_reducible first | exact HB.out | apply below_alloc | apply pw_below_drewN | apply below_drew1 | refine below_set ?_ GE104.out) | exact HB.out))))
                          (case aL => have := LMc31.out; omega)
                          intro v118 w42 ho hb hg hat
                          rw [← Ny117.out] at ho
                          have n0_ := Aside0.mk (blk_grown (g := gb104) (o := .cells #[.int .i64 a0_0, .slice A0_1 l0_1.length c0_1, .slice A0_2 l0_2.length c0_2] 32 (0, 0)) (by (with_reducible repeat (first | refine blk_drewN ?_ _ | refine blk_drew ?_ | refine blk_alloc ?_ _)); exact BK104.out) hg (Kd.R_ne HO116.out BK104.out (by decide)))
                          have n1_ := Aside0.mk (hb)
                          have n2_ := Aside0.mk (ho)
                          clear BK104
                          clear HB
                          clear HO116
                          have BK104 := n0_
                          have HB := n1_
                          have HO119 := n2_
                          clear n0_ n1_ n2_
                          clear ho hb hg hat
                          refine hK.out _ _ ⟨(blk_cell BK104.out 0).trans rfl, (blk_cell BK104.out 1).trans rfl, (blk_cell BK104.out 2).trans rfl⟩ (fun hHeld => ?_)
                          clear hK K
                          refine norm_ (a' := ?_) ?_ ?_
                          rotate_left
                          · show Act.put _ (some 73) _ = _
                            simp only [Act.put, List.setIfInBounds_toArray, List.set_cons_zero, List.set_cons_succ, i64_w, i32_w]
                            rfl
                          refine one_ (i := 5) (N := some 76) #[true, true, true, true, true, true, false] rfl rfl (by kernel_rfl) (by decide) (fun K hK => ?_)
                          refine Kd.R_append_rows_step (Kd.int .u8) (w0 := w) w.heap.size (by rfl) (.tmp 73) (.tmp 75) 30 5 (.int .u8 0) 1 rfl Try.underlying30 info5 rfl (by decide) (by omega) v118 y117 l0_2 _ _ _ (fun _ => True) (fun _ => False) rfl rfl ?aO ?aR (fun _ _ h => h) (fun _ h => h.elim) ?aF ?aB ?aS ?aL ?_
                          (case aR => repeat (first | exact (Kd.C_below HR0_2.out HB.out) | (with_reducible refine Kd.C_alloc ?_ _) | (with_reducible refine Kd.C_drewN ?_ _) | (with_reducible refine Kd.C_drew ?_)))
                          (case aB => exact (by repeat (first | (with_reducible first | exact HB.out | apply below_alloc | apply pw_below_drewN | apply below_drew1 | refine below_set ?_ GE104.out) | exact HB.out)))
                          (case aF => exact (fun _ _ => trivial))
                          (case aO => exact (by (with_reducible repeat (first | apply Kd.R_alloc | apply Kd.R_drewN | apply Kd.R_drew)); exact HO119.out))
                          (case aS => exact (below_size (by repeat (first | (with_reducible first | exact HB.out | apply below_alloc | apply pw_below_drewN | apply below_drew1 | refine below_set ?_ GE104.out) | exact HB.out))))
                          (case aL => have := LMc32.out; omega)
                          intro v121 w43 ho hb hg hat
                          rw [← Ny120.out] at ho
                          have n0_ := Aside0.mk (blk_grown (g := gb104) (o := .cells #[.int .i64 a0_0, .slice A0_1 l0_1.length c0_1, .slice A0_2 l0_2.length c0_2] 32 (0, 0)) (by (with_reducible repeat (first | refine blk_drewN ?_ _ | refine blk_drew ?_ | refine blk_alloc ?_ _)); exact BK104.out) hg (Kd.R_ne HO119.out BK104.out (by decide)))
                          have n1_ := Aside0.mk (hb)
                          have n2_ := Aside0.mk (ho)
                          clear BK104
                          clear HB
                          clear HO119
                          have BK104 := n0_
                          have HB := n1_
                          have HO122 := n2_
                          clear n0_ n1_ n2_
                          clear ho hb hg hat
                          refine hK.out _ _ ⟨(blk_cell BK104.out 0).trans rfl, (blk_cell BK104.out 1).trans rfl, (blk_cell BK104.out 2).trans rfl⟩ (fun hHeld => ?_)
                          clear hK K
                          refine norm_ (a' := ?_) ?_ ?_
                          rotate_left
                          · show Act.put _ (some 76) _ = _
                            simp only [Act.put, List.setIfInBounds_toArray, List.set_cons_zero, List.set_cons_succ, i64_w, i32_w]
                            rfl
                          refine pure_ (i := 6) (N := some 10) (v := ?_) (a' := ?_) #[true, true, true, true, true, true, true] rfl rfl (by kernel_rfl) (fun _ _ _ h => h) (Or.inl ⟨by rfl, ?_⟩) ?_ ?_
                          rotate_left
                          · intro w'
                            go_simp
                            with_reducible rfl
                          rotate_left
                          · simp only [Act.put, List.setIfInBounds_toArray, List.set_cons_zero, List.set_cons_succ, i64_w, i32_w]
                            rfl
                          refine done_ (by kernel_rfl) ?_
                          have hcz44_0 : w43.cell? ⟨gb104, 0, none⟩ = some (.int .i64 a0_0) := (blk_cell BK104.out 0).trans rfl
                          have hcz44_1 : w43.cell? ⟨gb104, 1, none⟩ = some (.slice A0_1 l0_1.length c0_1) := (blk_cell BK104.out 1).trans rfl
                          have hcz44_2 : w43.cell? ⟨gb104, 2, none⟩ = some (.slice A0_2 l0_2.length c0_2) := (blk_cell BK104.out 2).trans rfl
                          have hfz44_0 := blk_frozen BK104.out 0
                          have hfz44_1 := blk_frozen BK104.out 1
                          have hfz44_2 := blk_frozen BK104.out 2
                          try go_wp2_with (first | ((with_reducible refine gate_builtin (b := .append) (xs := #[.tmp 80, .tmp 81]) rfl ?_); at_builtin; refine Kd.R_append (Kd.int .u8) (w0 := w) w.heap.size rfl (.tmp 80) (.tmp 81) 30 5 (.int .u8 0) 1 rfl Try.underlying30 info5 rfl (by decide) (by omega) v121 y120 0 [.int .u8 0] (fun _ => True) (fun _ => False) rfl rfl ?aP (fun _ hk => hk.elim) ?aF ?aO ?aB ?aS ?aL ?_; (case aP => exact rfl); (case aB => exact (by repeat (first | (with_reducible first | exact HB.out | apply below_alloc | apply pw_below_drewN | apply below_drew1 | refine below_set ?_ GE104.out) | exact HB.out))); (case aF => exact (fun _ _ => trivial)); (case aO => exact (by (with_reducible repeat (first | apply Kd.R_alloc | apply Kd.R_drewN | apply Kd.R_drew)); exact HO122.out)); (case aS => exact (below_size (by repeat (first | (with_reducible first | exact HB.out | apply below_alloc | apply pw_below_drewN | apply below_drew1 | refine below_set ?_ GE104.out) | exact HB.out)))); (case aL => have := LMc34.out; omega); intro v124 w45 ho hb hg hat; rw [← Ny123.out] at ho; have n0_ := Aside0.mk (blk_grown (g := gb104) (o := .cells #[.int .i64 a0_0, .slice A0_1 l0_1.length c0_1, .slice A0_2 l0_2.length c0_2] 32 (0, 0)) (by (with_reducible repeat (first | refine blk_drewN ?_ _ | refine blk_drew ?_ | refine blk_alloc ?_ _)); exact BK104.out) hg (Kd.R_ne HO122.out BK104.out (by decide))); have n1_ := Aside0.mk (hb); have n2_ := Aside0.mk (ho); clear BK104; clear HB; clear HO122; have BK104 := n0_; have HB := n1_; have HO125 := n2_; clear n0_ n1_ n2_; clear ho hb hg hat) | ((with_reducible refine gate_dst (N := 93) rfl ?_); refine Kd.R_lit (Kd.int .u8) _ 5 ?hg (N := 93) ?hd (xs := ([Go.bits .or .u8 64 (((wrap64 (a2 + a3)) / 256) % 256), (wrap64 (a2 + a3)) % 256] : List Int)) (inner := [.int .u8 (Go.bits .or .u8 64 (((wrap64 (a2 + a3)) / 256) % 256)), .int .u8 ((wrap64 (a2 + a3)) % 256)]) (ok := fun _ => True) (okp := fun _ => True) ?hr ?hp (fun _ hk => hk) trivial (Below.refl _ _) (Nat.le_refl _) (by simp) ?_; (case hd => rfl); (case hg => rfl); (case hr => first | (go_simp; done) | (go_simp; rfl)); (case hp => exact (Reps.one (show Kd.M (Kd.int .u8) _ _ _ (Go.bits .or .u8 64 (((wrap64 (a2 + a3)) / 256) % 256)) [.int .u8 (Go.bits .or .u8 64 (((wrap64 (a2 + a3)) / 256) % 256))] from rfl) (Reps.one (show Kd.M (Kd.int .u8) _ _ _ ((wrap64 (a2 + a3)) % 256) [.int .u8 ((wrap64 (a2 + a3)) % 256)] from rfl) (Reps.none _ _)))); intro v127 w46 ho47 hb hg_ hnew_; clear hg_ hnew_; (first | rw [← Ny126.out] at ho47 | (simp only [Int.reduceToNat] at ho47; rw [← Ny126.out] at ho47)); have n0_ := Aside0.mk (Kd.R_elder' (by (with_reducible repeat (first | apply Kd.R_alloc | apply Kd.R_drewN | apply Kd.R_drew)); exact HO125.out) (Kd.R_base ho47) hb); have n1_ := Aside0.mk (Kd.R_lower (Kd.R_new' ho47 (Kd.R_lt (by (with_reducible repeat (first | apply Kd.R_alloc | apply Kd.R_drewN | apply Kd.R_drew)); exact HO125.out))) (below_size (by repeat (first | (with_reducible first | exact HB.out | apply below_alloc | apply pw_below_drewN | apply below_drew1 | refine below_set ?_ GE104.out) | exact HB.out)))); have n2_ := Aside0.mk (blk_below (g := gb104) (o := .cells #[.int .i64 a0_0, .slice A0_1 l0_1.length c0_1, .slice A0_2 l0_2.length c0_2] 32 (0, 0)) (by (with_reducible repeat (first | refine blk_drewN ?_ _ | refine blk_drew ?_ | refine blk_alloc ?_ _)); exact BK104.out) hb); have n3_ := Aside0.mk (below_step (by repeat (first | (with_reducible first | exact HB.out | apply below_alloc | apply pw_below_drewN | apply below_drew1 | refine below_set ?_ GE104.out) | exact HB.out)) hb); clear HO125; clear BK104; clear HB; have HO125 := n0_; have HO128 := n1_; have BK104 := n2_; have HB := n3_; clear n0_ n1_ n2_ n3_; clear hb ho47; obtain ⟨Ao49, co49, eo49⟩ := Kd.R_slice HO128.out; subst eo49) | ((with_reducible refine gate_builtin (b := .append) (xs := #[.tmp 86, .tmp 93]) rfl ?_); at_builtin; refine Kd.R_append_rows (Kd.int .u8) (w0 := w) w.heap.size rfl (.tmp 86) (.tmp 93) 30 5 (.int .u8 0) 1 rfl Try.underlying30 info5 rfl (by decide) (by omega) v124 y123 y126 _ _ _ (fun k_ => some k_ ≠ (.slice Ao49 y126.length co49 : Value).ownBlock) (fun _ => False) rfl rfl ?aO ?aR (fun _ _ h => h) (fun _ h => h.elim) ?aF ?aB ?aS ?aL ?_; (case aR => repeat (first | exact (Kd.R_reads' HO128.out).2.2 | (with_reducible refine Kd.C_alloc ?_ _) | (with_reducible refine Kd.C_drewN ?_ _) | (with_reducible refine Kd.C_drew ?_))); (case aB => exact (by repeat (first | (with_reducible first | exact HB.out | apply below_alloc | apply pw_below_drewN | apply below_drew1 | refine below_set ?_ GE104.out) | exact HB.out))); (case aF => exact (fun k_ hk => Kd.fresh' (Kd.R_lt (by (with_reducible repeat (first | apply Kd.R_alloc | apply Kd.R_drewN | apply Kd.R_drew)); exact HO128.out)) k_ hk)); (case aO => exact (by (with_reducible repeat (first | apply Kd.R_alloc | apply Kd.R_drewN | apply Kd.R_drew)); exact Kd.R_mono HO125.out (fun _ hk => hk.2))); (case aS => exact (below_size (by repeat (first | (with_reducible first | exact HB.out | apply below_alloc | apply pw_below_drewN | apply below_drew1 | refine below_set ?_ GE104.out) | exact HB.out)))); (case aL => have := LMc35.out; omega); intro v130 w48 ho hb hg hat; rw [← Ny129.out] at ho; have n0_ := Aside0.mk (blk_grown (g := gb104) (o := .cells #[.int .i64 a0_0, .slice A0_1 l0_1.length c0_1, .slice A0_2 l0_2.length c0_2] 32 (0, 0)) (by (with_reducible repeat (first | refine blk_drewN ?_ _ | refine blk_drew ?_ | refine blk_alloc ?_ _)); exact BK104.out) hg (Kd.R_ne HO125.out BK104.out (by decide))); have n1_ := Aside0.mk (Kd.R_after (ok := (fun _ => True)) (by (with_reducible repeat (first | apply Kd.R_alloc | apply Kd.R_drewN | apply Kd.R_drew)); exact HO128.out) hg hat); have n2_ := Aside0.mk (hb); have n3_ := Aside0.mk (ho); clear BK104; clear HO128; clear HB; clear HO125; have BK104 := n0_; have HO128 := n1_; have HB := n2_; have HO131 := n3_; clear n0_ n1_ n2_ n3_; clear ho hb hg hat))
                          go_meet
                          case rel => exact ⟨_, (y129), H', ⟨by have := HJ4.out; first | omega | exact Nat.le_refl _⟩, ⟨by (with_reducible repeat (first | apply Kd.R_alloc | apply Kd.R_drewN | apply Kd.R_drew)); exact Kd.R_mono HO131.out (fun _ hk => trivial)⟩, ⟨by (with_reducible repeat (first | refine blk_drewN ?_ _ | refine blk_drew ?_ | refine blk_alloc ?_ _)); exact BK104.out⟩, ⟨by repeat (first | (with_reducible first | exact HB.out | apply below_alloc | apply pw_below_drewN | apply below_drew1 | refine below_set ?_ GE104.out) | exact HB.out)⟩⟩
                        · rw [if_neg c35] at H
                          exact absurd H (by simp)
                      · rw [if_neg c34] at H
                        exact absurd H (by simp)
                    · rw [if_neg c33] at H
                      have c33b0 : (a0_0 == 0) = false := beq_eq_false_iff_ne.mpr c33
                      have c33b1 : (a0_0 != 0) = true := bne_iff_ne.mpr c33
                      obtain ⟨y132, hy132⟩ : ∃ y_ : List Int, y_ = (([Go.bits .or .u8 64 (((wrap64 (a2 + a3)) / 256) % 256), (wrap64 (a2 + a3)) % 256] : List Int)) := ⟨_, rfl⟩
                      replace H : (if y120.length + y132.length < 140737488355328 then (head_Put.j1 kj4 a1 a2 (y120 ++ y132)) else (none)) = some (r1, r2) := by first | (rw [hy132]; with_reducible exact H) | (have H2_ := (Option.bind_some _ _).symm.trans H; rw [hy132]; with_reducible exact H2_) | (have H2_ := (Option.bind_some _ _).symm.trans H; with_reducible exact H2_) | with_reducible exact H | (rw [hy132]; exact H) | exact H
                      have Ny132 := Aside0.mk hy132
                      clear hy132
                      by_cases c50 : y120.length + y132.length < 140737488355328
                      · rw [if_pos c50] at H
                        have LMc50 := Aside0.mk c50
                        clear c50
                        obtain ⟨y135, hy135⟩ : ∃ y_ : List Int, y_ = (y120 ++ y132) := ⟨_, rfl⟩
                        replace H : (head_Put.j1 kj4 a1 a2 y135) = some (r1, r2) := by first | (rw [hy135]; with_reducible exact H) | (have H2_ := (Option.bind_some _ _).symm.trans H; rw [hy135]; with_reducible exact H2_) | (have H2_ := (Option.bind_some _ _).symm.trans H; with_reducible exact H2_) | with_reducible exact H | (rw [hy135]; exact H) | exact H
                        have Ny135 := Aside0.mk hy135
                        clear hy135
                        have H' := Aside0.mk H
                        clear H
                        have hcz51_0 : wc.cell? ⟨gb104, 0, none⟩ = some (.int .i64 a0_0) := (blk_cell BK104.out 0).trans rfl
                        have hcz51_1 : wc.cell? ⟨gb104, 1, none⟩ = some (.slice A0_1 l0_1.length c0_1) := (blk_cell BK104.out 1).trans rfl
                        have hcz51_2 : wc.cell? ⟨gb104, 2, none⟩ = some (.slice A0_2 l0_2.length c0_2) := (blk_cell BK104.out 2).trans rfl
                        have hfz51_0 := blk_frozen BK104.out 0
                        have hfz51_1 := blk_frozen BK104.out 1
                        have hfz51_2 := blk_frozen BK104.out 2
                        try go_wp2_with (first | ((with_reducible refine gate_dst (N := 67) rfl ?_); refine Kd.R_lit (Kd.int .u8) _ 5 ?hg (N := 67) ?hd (xs := ([Go.bits .or .u8 (Go.bits .or .u8 192 ((wrap64 (a0_0 * 32)) % 256)) ((wrap64 (a2 - 1)) % 256), 0, 0, 0, 1, 8] : List Int)) (inner := [.int .u8 (Go.bits .or .u8 (Go.bits .or .u8 192 ((wrap64 (a0_0 * 32)) % 256)) ((wrap64 (a2 - 1)) % 256)), .int .u8 0, .int .u8 0, .int .u8 0, .int .u8 1, .int .u8 8]) (ok := fun _ => True) (okp := fun _ => True) ?hr ?hp (fun _ hk => hk) trivial (Below.refl _ _) (Nat.le_refl _) (by simp) ?_; (case hd => rfl); (case hg => rfl); (case hr => first | (go_simp; done) | (go_simp; rfl)); (case hp => exact (Reps.one (show Kd.M (Kd.int .u8) _ _ _ (Go.bits .or .u8 (Go.bits .or .u8 192 ((wrap64 (a0_0 * 32)) % 256)) ((wrap64 (a2 - 1)) % 256)) [.int .u8 (Go.bits .or .u8 (Go.bits .or .u8 192 ((wrap64 (a0_0 * 32)) % 256)) ((wrap64 (a2 - 1)) % 256))] from rfl) (Reps.one (show Kd.M (Kd.int .u8) _ _ _ 0 [.int .u8 0] from rfl) (Reps.one (show Kd.M (Kd.int .u8) _ _ _ 0 [.int .u8 0] from rfl) (Reps.one (show Kd.M (Kd.int .u8) _ _ _ 0 [.int .u8 0] from rfl) (Reps.one (show Kd.M (Kd.int .u8) _ _ _ 1 [.int .u8 1] from rfl) (Reps.one (show Kd.M (Kd.int .u8) _ _ _ 8 [.int .u8 8] from rfl) (Reps.none _ _)))))))); intro v112 w52 ho53 hb hg_ hnew_; clear hg_ hnew_; (first | rw [← Ny111.out] at ho53 | (simp only [Int.reduceToNat] at ho53; rw [← Ny111.out] at ho53)); have n0_ := Aside0.mk (Kd.R_lower ho53 (below_size (by repeat (first | (with_reducible first | exact HB.out | apply below_alloc | apply pw_below_drewN | apply below_drew1 | refine below_set ?_ GE104.out) | exact HB.out)))); have n1_ := Aside0.mk (blk_below (g := gb104) (o := .cells #[.int .i64 a0_0, .slice A0_1 l0_1.length c0_1, .slice A0_2 l0_2.length c0_2] 32 (0, 0)) (by (with_reducible repeat (first | refine blk_drewN ?_ _ | refine blk_drew ?_ | refine blk_alloc ?_ _)); exact BK104.out) hb); have n2_ := Aside0.mk (below_step (by repeat (first | (with_reducible first | exact HB.out | apply below_alloc | apply pw_below_drewN | apply below_drew1 | refine below_set ?_ GE104.out) | exact HB.out)) hb); clear BK104; clear HB; have HO113 := n0_; have BK104 := n1_; have HB := n2_; clear n0_ n1_ n2_; clear hb ho53; have hcz54_0 : w52.cell? ⟨gb104, 0, none⟩ = some (.int .i64 a0_0) := (blk_cell BK104.out 0).trans rfl; have hcz54_1 : w52.cell? ⟨gb104, 1, none⟩ = some (.slice A0_1 l0_1.length c0_1) := (blk_cell BK104.out 1).trans rfl; have hcz54_2 : w52.cell? ⟨gb104, 2, none⟩ = some (.slice A0_2 l0_2.length c0_2) := (blk_cell BK104.out 2).trans rfl; have hfz54_0 := blk_frozen BK104.out 0; have hfz54_1 := blk_frozen BK104.out 1; have hfz54_2 := blk_frozen BK104.out 2) | ((with_reducible refine gate_builtin (b := .append) (xs := #[.tmp 67, .tmp 69]) rfl ?_); at_builtin; refine Kd.R_append_rows (Kd.int .u8) (w0 := w) w.heap.size rfl (.tmp 67) (.tmp 69) 30 5 (.int .u8 0) 1 rfl Try.underlying30 info5 rfl (by decide) (by omega) v112 y111 l0_1 _ _ _ (fun _ => True) (fun _ => False) rfl rfl ?aO ?aR (fun _ _ h => h) (fun _ h => h.elim) ?aF ?aB ?aS ?aL ?_; (case aR => repeat (first | exact (Kd.C_below HR0_1.out HB.out) | (with_reducible refine Kd.C_alloc ?_ _) | (with_reducible refine Kd.C_drewN ?_ _) | (with_reducible refine Kd.C_drew ?_))); (case aB => exact (by repeat (first | (with_reducible first | exact HB.out | apply below_alloc | apply pw_below_drewN | apply below_drew1 | refine below_set ?_ GE104.out) | exact HB.out))); (case aF => exact (fun _ _ => trivial)); (case aO => exact (by (with_reducible repeat (first | apply Kd.R_alloc | apply Kd.R_drewN | apply Kd.R_drew)); exact HO113.out)); (case aS => exact (below_size (by repeat (first | (with_reducible first | exact HB.out | apply below_alloc | apply pw_below_drewN | apply below_drew1 | refine below_set ?_ GE104.out) | exact HB.out)))); (case aL => have := LMc30.out; omega); intro v115 w55 ho hb hg hat; rw [← Ny114.out] at ho; have n0_ := Aside0.mk (blk_grown (g := gb104) (o := .cells #[.int .i64 a0_0, .slice A0_1 l0_1.length c0_1, .slice A0_2 l0_2.length c0_2] 32 (0, 0)) (by (with_reducible repeat (first | refine blk_drewN ?_ _ | refine blk_drew ?_ | refine blk_alloc ?_ _)); exact BK104.out) hg (Kd.R_ne HO113.out BK104.out (by decide))); have n1_ := Aside0.mk (hb); have n2_ := Aside0.mk (ho); clear BK104; clear HB; clear HO113; have BK104 := n0_; have HB := n1_; have HO116 := n2_; clear n0_ n1_ n2_; clear ho hb hg hat))
                        have n0_ := Aside0.mk (Kd.R_drew HO116.out)
                        have n1_ := Aside0.mk (blk_drew BK104.out)
                        have n2_ := Aside0.mk (below_drew1 HB.out)
                        clear HO116
                        clear BK104
                        clear HB
                        have HO116 := n0_
                        have BK104 := n1_
                        have HB := n2_
                        clear n0_ n1_ n2_
                        refine start_ (n := 7) (S := fun w' => w'.cell? ⟨gb104, 0, none⟩ = some (.int .i64 a0_0) ∧ w'.cell? ⟨gb104, 1, none⟩ = some (.slice A0_1 l0_1.length c0_1) ∧ w'.cell? ⟨gb104, 2, none⟩ = some (.slice A0_2 l0_2.length c0_2)) (ds := []) #[false, false, false, false, false, false, false] (by kernel_rfl) rfl rfl ⟨(blk_cell BK104.out 0).trans rfl, (blk_cell BK104.out 1).trans rfl, (blk_cell BK104.out 2).trans rfl⟩ (fun hHeld => ?_)
                        generalize w55.drew = w56 at HO116 BK104 HB hHeld ⊢
                        refine pure_ (i := 0) (N := some 71) (v := ?_) (a' := ?_) #[true, false, false, false, false, false, false] rfl rfl (by kernel_rfl) (fun _ _ _ h => h) (Or.inl ⟨by rfl, ?_⟩) ?_ ?_
                        rotate_left
                        · intro w'
                          go_simp
                          with_reducible rfl
                        rotate_left
                        · simp only [Act.put, List.setIfInBounds_toArray, List.set_cons_zero, List.set_cons_succ, i64_w, i32_w]
                          rfl
                        refine pure_ (i := 3) (N := some 74) (v := ?_) (a' := ?_) #[true, false, false, true, false, false, false] rfl rfl (by kernel_rfl) (fun _ _ _ h => h) (Or.inl ⟨by rfl, ?_⟩) ?_ ?_
                        rotate_left
                        · intro w'
                          go_simp
                          with_reducible rfl
                        rotate_left
                        · simp only [Act.put, List.setIfInBounds_toArray, List.set_cons_zero, List.set_cons_succ, i64_w, i32_w]
                          rfl
                        refine take_ (i := 4) (N := some 75) (v := ?_) (a' := ?_) #[true, false, false, true, true, false, false] rfl rfl (by kernel_rfl) (fun _ _ _ h => h) (Or.inl ⟨by rfl, ?_⟩) hHeld ?_ ?_
                        rotate_left
                        · rintro w' ⟨s0, s1, s2⟩
                          go_simp
                          with_reducible rfl
                        rotate_left
                        · simp only [Act.put, List.setIfInBounds_toArray, List.set_cons_zero, List.set_cons_succ, i64_w, i32_w]
                          rfl
                        refine one_ (i := 1) (N := some 72) #[true, true, false, true, true, false, false] rfl rfl (by kernel_rfl) (by decide) (fun K hK => ?_)
                        refine value_ (w1 := ?_) (v := ?_) (by rfl) rfl ?_ ?_
                        rotate_left 2
                        · go_simp
                          constructor
                          · rfl
                          · rfl
                        refine hK.out _ _ ⟨(blk_cell (blk_alloc BK104.out _) 0).trans rfl, (blk_cell (blk_alloc BK104.out _) 1).trans rfl, (blk_cell (blk_alloc BK104.out _) 2).trans rfl⟩ (fun hHeld => ?_)
                        clear hK K
                        refine norm_ (a' := ?_) ?_ ?_
                        rotate_left
                        · show Act.put _ (some 72) _ = _
                          simp only [Act.put, List.setIfInBounds_toArray, List.set_cons_zero, List.set_cons_succ, i64_w, i32_w]
                          rfl
                        refine one_ (i := 2) (N := some 73) #[true, true, true, true, true, false, false] rfl rfl (by kernel_rfl) (by decide) (fun K hK => ?_)
                        refine Kd.R_append_step (Kd.int .u8) (w0 := w) w.heap.size (by rfl) (.tmp 71) (.tmp 72) 30 5 (.int .u8 0) 1 rfl Try.underlying30 info5 rfl (by decide) (by omega) v115 y114 8 [.int .u8 8] (fun _ => True) (fun _ => False) rfl rfl ?aP (fun _ hk => hk.elim) ?aF ?aO ?aB ?aS ?aL ?_
                        (case aP => exact rfl)
                        (case aB => exact (by repeat (first | (with_reducible first | exact HB.out | apply below_alloc | apply pw_below_drewN | apply below_drew1 | refine below_set ?_ GE104.out) | exact HB.out)))
                        (case aF => exact (fun _ _ => trivial))
                        (case aO => exact (by (with_reducible repeat (first | apply Kd.R_alloc | apply Kd.R_drewN | apply Kd.R_drew)); exact HO116.out))
                        (case aS => exact (below_size (by repeat (first | (with_reducible first | exact HB.out | apply below_alloc | apply pw_below_drewN | apply below_drew1 | refine below_set ?_ GE104.out) | exact HB.out))))
                        (case aL => have := LMc31.out; omega)
                        intro v118 w57 ho hb hg hat
                        rw [← Ny117.out] at ho
                        have n0_ := Aside0.mk (blk_grown (g := gb104) (o := .cells #[.int .i64 a0_0, .slice A0_1 l0_1.length c0_1, .slice A0_2 l0_2.length c0_2] 32 (0, 0)) (by (with_reducible repeat (first | refine blk_drewN ?_ _ | refine blk_drew ?_ | refine blk_alloc ?_ _)); exact BK104.out) hg (Kd.R_ne HO116.out BK104.out (by decide)))
                        have n1_ := Aside0.mk (hb)
                        have n2_ := Aside0.mk (ho)
                        clear BK104
                        clear HB
                        clear HO116
                        have BK104 := n0_
                        have HB := n1_
                        have HO119 := n2_
                        clear n0_ n1_ n2_
                        clear ho hb hg hat
                        refine hK.out _ _ ⟨(blk_cell BK104.out 0).trans rfl, (blk_cell BK104.out 1).trans rfl, (blk_cell BK104.out 2).trans rfl⟩ (fun hHeld => ?_)
                        clear hK K
                        refine norm_ (a' := ?_) ?_ ?_
                        rotate_left
                        · show Act.put _ (some 73) _ = _
                          simp only [Act.put, List.setIfInBounds_toArray, List.set_cons_zero, List.set_cons_succ, i64_w, i32_w]
                          rfl
                        refine one_ (i := 5) (N := some 76) #[true, true, true, true, true, true, false] rfl rfl (by kernel_rfl) (by decide) (fun K hK => ?_)
                        refine Kd.R_append_rows_step (Kd.int .u8) (w0 := w) w.heap.size (by rfl) (.tmp 73) (.tmp 75) 30 5 (.int .u8 0) 1 rfl Try.underlying30 info5 rfl (by decide) (by omega) v118 y117 l0_2 _ _ _ (fun _ => True) (fun _ => False) rfl rfl ?aO ?aR (fun _ _ h => h) (fun _ h => h.elim) ?aF ?aB ?aS ?aL ?_
                        (case aR => repeat (first | exact (Kd.C_below HR0_2.out HB.out) | (with_reducible refine Kd.C_alloc ?_ _) | (with_reducible refine Kd.C_drewN ?_ _) | (with_reducible refine Kd.C_drew ?_)))
                        (case aB => exact (by repeat (first | (with_reducible first | exact HB.out | apply below_alloc | apply pw_below_drewN | apply below_drew1 | refine below_set ?_ GE104.out) | exact HB.out)))
                        (case aF => exact (fun _ _ => trivial))
                        (case aO => exact (by (with_reducible repeat (first | apply Kd.R_alloc | apply Kd.R_drewN | apply Kd.R_drew)); exact HO119.out))
                        (case aS => exact (below_size (by repeat (first | (with_reducible first | exact HB.out | apply below_alloc | apply pw_below_drewN | apply below_drew1 | refine below_set ?_ GE104.out) | exact HB.out))))
                        (case aL => have := LMc32.out; omega)
                        intro v121 w58 ho hb hg hat
                        rw [← Ny120.out] at ho
                        have n0_ := Aside0.mk (blk_grown (g := gb104) (o := .cells #[.int .i64 a0_0, .slice A0_1 l0_1.length c0_1, .slice A0_2 l0_2.length c0_2] 32 (0, 0)) (by (with_reducible repeat (first | refine blk_drewN ?_ _ | refine blk_drew ?_ | refine blk_alloc ?_ _)); exact BK104.out) hg (Kd.R_ne HO119.out BK104.out (by decide)))
                        have n1_ := Aside0.mk (hb)
                        have n2_ := Aside0.mk (ho)
                        clear BK104
                        clear HB
                        clear HO119
                        have BK104 := n0_
                        have HB := n1_
                        have HO122 := n2_
                        clear n0_ n1_ n2_
                        clear ho hb hg hat
                        refine hK.out _ _ ⟨(blk_cell BK104.out 0).trans rfl, (blk_cell BK104.out 1).trans rfl, (blk_cell BK104.out 2).trans rfl⟩ (fun hHeld => ?_)
                        clear hK K
                        refine norm_ (a' := ?_) ?_ ?_
                        rotate_left
                        · show Act.put _ (some 76) _ = _
                          simp only [Act.put, List.setIfInBounds_toArray, List.set_cons_zero, List.set_cons_succ, i64_w, i32_w]
                          rfl
                        refine pure_ (i := 6) (N := some 10) (v := ?_) (a' := ?_) #[true, true, true, true, true, true, true] rfl rfl (by kernel_rfl) (fun _ _ _ h => h) (Or.inl ⟨by rfl, ?_⟩) ?_ ?_
                        rotate_left
                        · intro w'
                          go_simp
                          with_reducible rfl
                        rotate_left
                        · simp only [Act.put, List.setIfInBounds_toArray, List.set_cons_zero, List.set_cons_succ, i64_w, i32_w]
                          rfl
                        refine done_ (by kernel_rfl) ?_
                        have hcz59_0 : w58.cell? ⟨gb104, 0, none⟩ = some (.int .i64 a0_0) := (blk_cell BK104.out 0).trans rfl
                        have hcz59_1 : w58.cell? ⟨gb104, 1, none⟩ = some (.slice A0_1 l0_1.length c0_1) := (blk_cell BK104.out 1).trans rfl
                        have hcz59_2 : w58.cell? ⟨gb104, 2, none⟩ = some (.slice A0_2 l0_2.length c0_2) := (blk_cell BK104.out 2).trans rfl
                        have hfz59_0 := blk_frozen BK104.out 0
                        have hfz59_1 := blk_frozen BK104.out 1
                        have hfz59_2 := blk_frozen BK104.out 2
                        try go_wp2_with (first | ((with_reducible refine gate_dst (N := 93) rfl ?_); refine Kd.R_lit (Kd.int .u8) _ 5 ?hg (N := 93) ?hd (xs := ([Go.bits .or .u8 64 (((wrap64 (a2 + a3)) / 256) % 256), (wrap64 (a2 + a3)) % 256] : List Int)) (inner := [.int .u8 (Go.bits .or .u8 64 (((wrap64 (a2 + a3)) / 256) % 256)), .int .u8 ((wrap64 (a2 + a3)) % 256)]) (ok := fun _ => True) (okp := fun _ => True) ?hr ?hp (fun _ hk => hk) trivial (Below.refl _ _) (Nat.le_refl _) (by simp) ?_; (case hd => rfl); (case hg => rfl); (case hr => first | (go_simp; done) | (go_simp; rfl)); (case hp => exact (Reps.one (show Kd.M (Kd.int .u8) _ _ _ (Go.bits .or .u8 64 (((wrap64 (a2 + a3)) / 256) % 256)) [.int .u8 (Go.bits .or .u8 64 (((wrap64 (a2 + a3)) / 256) % 256))] from rfl) (Reps.one (show Kd.M (Kd.int .u8) _ _ _ ((wrap64 (a2 + a3)) % 256) [.int .u8 ((wrap64 (a2 + a3)) % 256)] from rfl) (Reps.none _ _)))); intro v133 w60 ho61 hb hg_ hnew_; clear hg_ hnew_; (first | rw [← Ny132.out] at ho61 | (simp only [Int.reduceToNat] at ho61; rw [← Ny132.out] at ho61)); have n0_ := Aside0.mk (Kd.R_elder' (by (with_reducible repeat (first | apply Kd.R_alloc | apply Kd.R_drewN | apply Kd.R_drew)); exact HO122.out) (Kd.R_base ho61) hb); have n1_ := Aside0.mk (Kd.R_lower (Kd.R_new' ho61 (Kd.R_lt (by (with_reducible repeat (first | apply Kd.R_alloc | apply Kd.R_drewN | apply Kd.R_drew)); exact HO122.out))) (below_size (by repeat (first | (with_reducible first | exact HB.out | apply below_alloc | apply pw_below_drewN | apply below_drew1 | refine below_set ?_ GE104.out) | exact HB.out)))); have n2_ := Aside0.mk (blk_below (g := gb104) (o := .cells #[.int .i64 a0_0, .slice A0_1 l0_1.length c0_1, .slice A0_2 l0_2.length c0_2] 32 (0, 0)) (by (with_reducible repeat (first | refine blk_drewN ?_ _ | refine blk_drew ?_ | refine blk_alloc ?_ _)); exact BK104.out) hb); have n3_ := Aside0.mk (below_step (by repeat (first | (with_reducible first | exact HB.out | apply below_alloc | apply pw_below_drewN | apply below_drew1 | refine below_set ?_ GE104.out) | exact HB.out)) hb); clear HO122; clear BK104; clear HB; have HO122 := n0_; have HO134 := n1_; have BK104 := n2_; have HB := n3_; clear n0_ n1_ n2_ n3_; clear hb ho61; obtain ⟨Ao63, co63, eo63⟩ := Kd.R_slice HO134.out; subst eo63) | ((with_reducible refine gate_builtin (b := .append) (xs := #[.tmp 86, .tmp 93]) rfl ?_); at_builtin; refine Kd.R_append_rows (Kd.int .u8) (w0 := w) w.heap.size rfl (.tmp 86) (.tmp 93) 30 5 (.int .u8 0) 1 rfl Try.underlying30 info5 rfl (by decide) (by omega) v121 y120 y132 _ _ _ (fun k_ => some k_ ≠ (.slice Ao63 y132.length co63 : Value).ownBlock) (fun _ => False) rfl rfl ?aO ?aR (fun _ _ h => h) (fun _ h => h.elim) ?aF ?aB ?aS ?aL ?_; (case aR => repeat (first | exact (Kd.R_reads' HO134.out).2.2 | (with_reducible refine Kd.C_alloc ?_ _) | (with_reducible refine Kd.C_drewN ?_ _) | (with_reducible refine Kd.C_drew ?_))); (case aB => exact (by repeat (first | (with_reducible first | exact HB.out | apply below_alloc | apply pw_below_drewN | apply below_drew1 | refine below_set ?_ GE104.out) | exact HB.out))); (case aF => exact (fun k_ hk => Kd.fresh' (Kd.R_lt (by (with_reducible repeat (first | apply Kd.R_alloc | apply Kd.R_drewN | apply Kd.R_drew)); exact HO134.out)) k_ hk)); (case aO => exact (by (with_reducible repeat (first | apply Kd.R_alloc | apply Kd.R_drewN | apply Kd.R_drew)); exact Kd.R_mono HO122.out (fun _ hk => hk.2))); (case aS => exact (below_size (by repeat (first | (with_reducible first | exact HB.out | apply below_alloc | apply pw_below_drewN | apply below_drew1 | refine below_set ?_ GE104.out) | exact HB.out)))); (case aL => have := LMc50.out; omega); intro v136 w62 ho hb hg hat; rw [← Ny135.out] at ho; have n0_ := Aside0.mk (blk_grown (g := gb104) (o := .cells #[.int .i64 a0_0, .slice A0_1 l0_1.length c0_1, .slice A0_2 l0_2.length c0_2] 32 (0, 0)) (by (with_reducible repeat (first | refine blk_drewN ?_ _ | refine blk_drew ?_ | refine blk_alloc ?_ _)); exact BK104.out) hg (Kd.R_ne HO122.out BK104.out (by decide))); have n1_ := Aside0.mk (Kd.R_after (ok := (fun _ => True)) (by (with_reducible repeat (first | apply Kd.R_alloc | apply Kd.R_drewN | apply Kd.R_drew)); exact HO134.out) hg hat); have n2_ := Aside0.mk (hb); have n3_ := Aside0.mk (ho); clear BK104; clear HO134; clear HB; clear HO122; have BK104 := n0_; have HO134 := n1_; have HB := n2_; have HO137 := n3_; clear n0_ n1_ n2_ n3_; clear ho hb hg hat))
                        go_meet
                        case rel => exact ⟨_, (y135), H', ⟨by have := HJ4.out; first | omega | exact Nat.le_refl _⟩, ⟨by (with_reducible repeat (first | apply Kd.R_alloc | apply Kd.R_drewN | apply Kd.R_drew)); exact Kd.R_mono HO137.out (fun _ hk => trivial)⟩, ⟨by (with_reducible repeat (first | refine blk_drewN ?_ _ | refine blk_drew ?_ | refine blk_alloc ?_ _)); exact BK104.out⟩, ⟨by repeat (first | (with_reducible first | exact HB.out | apply below_alloc | apply pw_below_drewN | apply below_drew1 | refine below_set ?_ GE104.out) | exact HB.out)⟩⟩
                      · rw [if_neg c50] at H
                        exact absurd H (by simp)
                  · rw [if_neg c32] at H
                    exact absurd H (by simp)
                · rw [if_neg c31] at H
                  exact absurd H (by simp)
              · rw [if_neg c30] at H
                exact absurd H (by simp)
            · rw [if_neg c29] at H
              have c29b0 : ((l0_2.length : Int) == 8) = false := beq_eq_false_iff_ne.mpr c29
              have c29b1 : ((l0_2.length : Int) != 8) = true := bne_iff_ne.mpr c29
              simp only [Option.some.injEq, Prod.mk.injEq] at H
              obtain ⟨rfl, rfl⟩ := H
              have hcz64_0 : wc.cell? ⟨gb104, 0, none⟩ = some (.int .i64 a0_0) := (blk_cell BK104.out 0).trans rfl
              have hcz64_1 : wc.cell? ⟨gb104, 1, none⟩ = some (.slice A0_1 l0_1.length c0_1) := (blk_cell BK104.out 1).trans rfl
              have hcz64_2 : wc.cell? ⟨gb104, 2, none⟩ = some (.slice A0_2 l0_2.length c0_2) := (blk_cell BK104.out 2).trans rfl
              have hfz64_0 := blk_frozen BK104.out 0
              have hfz64_1 := blk_frozen BK104.out 1
              have hfz64_2 := blk_frozen BK104.out 2
              go_wp2
              go_ret2
              exact ⟨_, by first | rfl | (simp [errW_none, errW_some] <;> rfl) | (simp [*, errW_none, errW_some] <;> rfl), by first | exact Kd.R_nil _ _ _ _ _ | exact Kd.N_nil _ _ _ _ _ | exact Kd.V_nil _ _ _ _ _ | exact Kd.Q_nil _ _ _ _ _ | exact Kd.S_nil _ _ _ _ _, by repeat (first | (with_reducible first | exact HB.out | apply below_alloc | apply pw_below_drewN | apply below_drew1 | refine below_set ?_ GE104.out) | exact HB.out)⟩
        case rest =>
          clear HC21
          try clear c1
          try clear c2
          try clear p2
          try clear c3
          try clear c5
          try clear p6
          try clear c7
          try clear c7b0
          try clear c7b1
          try clear c8
          try clear c8b0
          try clear c10
          try clear c10b0
          try clear c12
          try clear c12b0
          try clear c14
          try clear c14b0
          try clear c16
          try clear c16b0
          try clear c20
          try clear c23
          try clear c23b0
          try clear c23b1
          try clear c24
          try clear c29
          try clear c29b0
          try clear c29b1
          try clear c30
          try clear c31
          try clear c32
          try clear c33
          try clear c33b0
          try clear c33b1
          try clear c34
          try clear c35
          try clear c50
          try clear p64
          try clear hcz11_0
          try clear hcz11_1
          try clear hcz11_2
          try clear hcz13_0
          try clear hcz13_1
          try clear hcz13_2
          try clear hcz15_0
          try clear hcz15_1
          try clear hcz15_2
          try clear hcz17_0
          try clear hcz17_1
          try clear hcz17_2
          try clear hcz18_0
          try clear hcz18_1
          try clear hcz18_2
          try clear hcz19_0
          try clear hcz19_1
          try clear hcz19_2
          try clear hcz22_0
          try clear hcz22_1
          try clear hcz22_2
          try clear hcz27_0
          try clear hcz27_1
          try clear hcz27_2
          try clear hcz36_0
          try clear hcz36_1
          try clear hcz36_2
          try clear hcz39_0
          try clear hcz39_1
          try clear hcz39_2
          try clear hcz44_0
          try clear hcz44_1
          try clear hcz44_2
          try clear hcz51_0
          try clear hcz51_1
          try clear hcz51_2
          try clear hcz54_0
          try clear hcz54_1
          try clear hcz54_2
          try clear hcz59_0
          try clear hcz59_1
          try clear hcz59_2
          try clear hcz64_0
          try clear hcz64_1
          try clear hcz64_2
          try clear hcz9_0
          try clear hcz9_1
          try clear hcz9_2
          try clear hfz11_0
          try clear hfz11_1
          try clear hfz11_2
          try clear hfz13_0
          try clear hfz13_1
          try clear hfz13_2
          try clear hfz15_0
          try clear hfz15_1
          try clear hfz15_2
          try clear hfz17_0
          try clear hfz17_1
          try clear hfz17_2
          try clear hfz18_0
          try clear hfz18_1
          try clear hfz18_2
          try clear hfz19_0
          try clear hfz19_1
          try clear hfz19_2
          try clear hfz22_0
          try clear hfz22_1
          try clear hfz22_2
          try clear hfz27_0
          try clear hfz27_1
          try clear hfz27_2
          try clear hfz36_0
          try clear hfz36_1
          try clear hfz36_2
          try clear hfz39_0
          try clear hfz39_1
          try clear hfz39_2
          try clear hfz44_0
          try clear hfz44_1
          try clear hfz44_2
          try clear hfz51_0
          try clear hfz51_1
          try clear hfz51_2
          try clear hfz54_0
          try clear hfz54_1
          try clear hfz54_2
          try clear hfz59_0
          try clear hfz59_1
          try clear hfz59_2
          try clear hfz64_0
          try clear hfz64_1
          try clear hfz64_2
          try clear hfz9_0
          try clear hfz9_1
          try clear hfz9_2
          try clear p2
          obtain ⟨kq, x10_20, HA, HJ20, HO_10, BK104, HB⟩ := hcut
          cases kq with
          | zero => exact absurd HA.out (by simp [head_Put.j1])
          | succ kj20 =>
            have H := HA.out
            clear HA
            simp only [head_Put.j1] at H
            have H' := Aside0.mk H
            clear H
            go_wp2
            go_loopg [10, 12] kj20 (fun kq v10 v12 w' => ∃ (x10_3 : List Int) (x12_3 : Int), v12 = .int .i64 x12_3 ∧ Aside0 (head_Put.l0 kq a1 x10_3 x12_3 = some (r1, r2)) ∧ Aside0 (kq ≤ kj20) ∧ Aside0 (Kd.R (Kd.int .u8) 5 w' w.heap.size (fun _ => True) v10 x10_3) ∧ Aside0 (w'.heap[gb104]? = some (.cells #[.int .i64 a0_0, (.slice A0_1 l0_1.length c0_1), (.slice A0_2 l0_2.length c0_2)] 32 (0, 0))) ∧ Aside0 (Below w.heap.size w w'))
            case atStart => exact ⟨(x10_20), (wrap64 (a2 - 1)), (by first | rfl | (simp; done) | (simp [*]; done)), H', ⟨Nat.le_refl _⟩, ⟨by (with_reducible repeat (first | apply Kd.R_alloc | apply Kd.R_drewN | apply Kd.R_drew)); exact HO_10.out⟩, ⟨by (with_reducible repeat (first | refine blk_drewN ?_ _ | refine blk_drew ?_ | refine blk_alloc ?_ _)); exact BK104.out⟩, ⟨by repeat (first | (with_reducible first | exact HB.out | apply below_alloc | apply pw_below_drewN | apply below_drew1 | refine below_set ?_ GE104.out) | exact HB.out)⟩⟩
            case round =>
              clear H'
              try clear c1
              try clear c2
              try clear p2
              try clear c3
              try clear c5
              try clear p6
              try clear c7
              try clear c7b0
              try clear c7b1
              try clear c8
              try clear c8b0
              try clear c10
              try clear c10b0
              try clear c12
              try clear c12b0
              try clear c14
              try clear c14b0
              try clear c16
              try clear c16b0
              try clear c20
              try clear c23
              try clear c23b0
              try clear c23b1
              try clear c24
              try clear c29
              try clear c29b0
              try clear c29b1
              try clear c30
              try clear c31
              try clear c32
              try clear c33
              try clear c33b0
              try clear c33b1
              try clear c34
              try clear c35
              try clear c50
              try clear p64
              try clear hcz11_0
              try clear hcz11_1
              try clear hcz11_2
              try clear hcz13_0
              try clear hcz13_1
              try clear hcz13_2
              try clear hcz15_0
              try clear hcz15_1
              try clear hcz15_2
              try clear hcz17_0
              try clear hcz17_1
              try clear hcz17_2
              try clear hcz18_0
              try clear hcz18_1
              try clear hcz18_2
              try clear hcz19_0
              try clear hcz19_1
              try clear hcz19_2
              try clear hcz22_0
              try clear hcz22_1
              try clear hcz22_2
              try clear hcz27_0
              try clear hcz27_1
              try clear hcz27_2
              try clear hcz36_0
              try clear hcz36_1
              try clear hcz36_2
              try clear hcz39_0
              try clear hcz39_1
              try clear hcz39_2
              try clear hcz44_0
              try clear hcz44_1
              try clear hcz44_2
              try clear hcz51_0
              try clear hcz51_1
              try clear hcz51_2
              try clear hcz54_0
              try clear hcz54_1
              try clear hcz54_2
              try clear hcz59_0
              try clear hcz59_1
              try clear hcz59_2
              try clear hcz64_0
              try clear hcz64_1
              try clear hcz64_2
              try clear hcz9_0
              try clear hcz9_1
              try clear hcz9_2
              try clear hfz11_0
              try clear hfz11_1
              try clear hfz11_2
              try clear hfz13_0
              try clear hfz13_1
              try clear hfz13_2
              try clear hfz15_0
              try clear hfz15_1
              try clear hfz15_2
              try clear hfz17_0
              try clear hfz17_1
              try clear hfz17_2
              try clear hfz18_0
              try clear hfz18_1
              try clear hfz18_2
              try clear hfz19_0
              try clear hfz19_1
              try clear hfz19_2
              try clear hfz22_0
              try clear hfz22_1
              try clear hfz22_2
              try clear hfz27_0
              try clear hfz27_1
              try clear hfz27_2
              try clear hfz36_0
              try clear hfz36_1
              try clear hfz36_2
              try clear hfz39_0
              try clear hfz39_1
              try clear hfz39_2
              try clear hfz44_0
              try clear hfz44_1
              try clear hfz44_2
              try clear hfz51_0
              try clear hfz51_1
              try clear hfz51_2
              try clear hfz54_0
              try clear hfz54_1
              try clear hfz54_2
              try clear hfz59_0
              try clear hfz59_1
              try clear hfz59_2
              try clear hfz64_0
              try clear hfz64_1
              try clear hfz64_2
              try clear hfz9_0
              try clear hfz9_1
              try clear hfz9_2
              try clear p2
              try clear p6
              try clear p64
              obtain ⟨x10_3, x12_3, rfl, HA, HK3, HO_10, BK104, HB⟩ := hrel
              cases gk with
              | zero => exact absurd HA.out (by simp [head_Put.l0])
              | succ k3 =>
                have H := HA.out
                clear HA
                simp only [head_Put.l0] at H
                by_cases c65 : x12_3 ≥ 0
                · rw [if_pos c65] at H
                  have c65b0 : decide (0 ≤ x12_3) = true := decide_eq_true c65
                  clear c65
                  obtain ⟨ji66, hji66⟩ : ∃ j_ : Int, (wrap64 (8 * x12_3)) = j_ := ⟨_, rfl⟩
                  replace H : (if 0 ≤ (ji66) then (if x10_3.length < 140737488355328 then (head_Put.l0 k3 a1 (x10_3 ++ [(shr .u64 a1 (ji66)) % 256]) (wrap64 (x12_3 - 1))) else (none)) else (none)) = some (r1, r2) := by first | (rw [hji66] at H; exact H) | (simp only [hji66] at H ⊢; exact H)
                  have hji66w : (IntKind.i64.wrap (8 * x12_3)) = ji66 := (i64_w _).trans hji66
                  by_cases c67 : 0 ≤ (ji66)
                  · rw [if_pos c67] at H
                    have c67b0 := eq_true c67
                    have c67b1 : decide (0 ≤ (ji66)) = true := decide_eq_true c67
                    clear c67
                    obtain ⟨ji68, hji68⟩ : ∃ j_ : Int, (shr .u64 a1 (ji66)) = j_ := ⟨_, rfl⟩
                    replace H : (if x10_3.length < 140737488355328 then (head_Put.l0 k3 a1 (x10_3 ++ [(ji68) % 256]) (wrap64 (x12_3 - 1))) else (none)) = some (r1, r2) := by first | (rw [hji68] at H; exact H) | (simp only [hji68] at H ⊢; exact H)
                    have hji68_ : (a1 / 2 ^ min (ji66).toNat 64) = ji68 := hji68
                    have hji68z : (ji66) ≤ 64 → (a1 / 2 ^ (ji66).toNat) = ji68 := shr_small hji68
                    by_cases c69 : x10_3.length < 140737488355328
                    · rw [if_pos c69] at H
                      have LMc69 := Aside0.mk c69
                      clear c69
                      obtain ⟨y138, hy138⟩ : ∃ y_ : List Int, y_ = (x10_3 ++ [(ji68) % 256]) := ⟨_, rfl⟩
                      replace H : (head_Put.l0 k3 a1 y138 (wrap64 (x12_3 - 1))) = some (r1, r2) := by first | (rw [hy138]; with_reducible exact H) | (have H2_ := (Option.bind_some _ _).symm.trans H; rw [hy138]; with_reducible exact H2_) | (have H2_ := (Option.bind_some _ _).symm.trans H; with_reducible exact H2_) | with_reducible exact H | (rw [hy138]; exact H) | exact H
                      have Ny138 := Aside0.mk hy138
                      clear hy138
                      have H' := Aside0.mk H
                      clear H
                      go_wp2_with (first | ((with_reducible refine gate_builtin (b := .append) (xs := #[.tmp 101, .tmp 107]) rfl ?_); at_builtin; refine Kd.R_append (Kd.int .u8) (w0 := w) w.heap.size rfl (.tmp 101) (.tmp 107) 30 5 (.int .u8 0) 1 rfl Try.underlying30 info5 rfl (by decide) (by omega) u10 x10_3 ((ji68) % 256) [.int .u8 ((ji68) % 256)] (fun _ => True) (fun _ => False) rfl rfl ?aP (fun _ hk => hk.elim) ?aF ?aO ?aB ?aS ?aL ?_; (case aP => exact rfl); (case aB => exact (by repeat (first | (with_reducible first | exact HB.out | apply below_alloc | apply pw_below_drewN | apply below_drew1 | refine below_set ?_ GE104.out) | exact HB.out))); (case aF => exact (fun _ _ => trivial)); (case aO => exact (by (with_reducible repeat (first | apply Kd.R_alloc | apply Kd.R_drewN | apply Kd.R_drew)); exact HO_10.out)); (case aS => exact (below_size (by repeat (first | (with_reducible first | exact HB.out | apply below_alloc | apply pw_below_drewN | apply below_drew1 | refine below_set ?_ GE104.out) | exact HB.out)))); (case aL => have := LMc69.out; omega); intro v139 w70 ho hb hg hat; rw [← Ny138.out] at ho; have n0_ := Aside0.mk (blk_grown (g := gb104) (o := .cells #[.int .i64 a0_0, .slice A0_1 l0_1.length c0_1, .slice A0_2 l0_2.length c0_2] 32 (0, 0)) (by (with_reducible repeat (first | refine blk_drewN ?_ _ | refine blk_drew ?_ | refine blk_alloc ?_ _)); exact BK104.out) hg (Kd.R_ne HO_10.out BK104.out (by decide))); have n1_ := Aside0.mk (hb); have n2_ := Aside0.mk (ho); clear BK104; clear HB; clear HO_10; have BK104 := n0_; have HB := n1_; have HO140 := n2_; clear n0_ n1_ n2_; clear ho hb hg hat))
                      go_roundg k3
                      case measure => have := HJ4.out; have := HJ20.out; have := HK3.out; omega
                      case rel => exact ⟨(y138), (wrap64 (x12_3 - 1)), (by first | rfl | (simp; done) | (simp [*]; done)), H', ⟨by have := HJ4.out; have := HJ20.out; have := HK3.out; omega⟩, ⟨by (with_reducible repeat (first | apply Kd.R_alloc | apply Kd.R_drewN | apply Kd.R_drew)); exact HO140.out⟩, ⟨by (with_reducible repeat (first | refine blk_drewN ?_ _ | refine blk_drew ?_ | refine blk_alloc ?_ _)); exact BK104.out⟩, ⟨by repeat (first | (with_reducible first | exact HB.out | apply below_alloc | apply pw_below_drewN | apply below_drew1 | refine below_set ?_ GE104.out) | exact HB.out)⟩⟩
                    · rw [if_neg c69] at H
                      exact absurd H (by simp)
                  · rw [if_neg c67] at H
                    exact absurd H (by simp)
                · rw [if_neg c65] at H
                  have c65b0 : decide (0 ≤ x12_3) = false := decide_eq_false c65
                  clear c65
                  simp only [Option.some.injEq, Prod.mk.injEq] at H
                  obtain ⟨rfl, rfl⟩ := H
                  go_wp2
                  go_ret2
                  exact ⟨_, by first | rfl | (simp [errW_none, errW_some] <;> rfl) | (simp [*, errW_none, errW_some] <;> rfl), by (with_reducible repeat (first | apply Kd.R_alloc | apply Kd.R_drewN | apply Kd.R_drew)); exact HO_10.out, by repeat (first | (with_reducible first | exact HB.out | apply below_alloc | apply pw_below_drewN | apply below_drew1 | refine below_set ?_ GE104.out) | exact HB.out)⟩

end Go.Proofs.Ytmccghadgihbpaa.PHeadBack
