-- PRINTED BY print.sh 35421559b90ae4d0a3588c463048766b98c2df88dd9212a6774a882060cdf62d: not written by this session
import Derived.Test.YtmccghadgihbpaaPFrameBackx0
import Derived.Test.YtmccghadgihbpaaPFrameBackx2
namespace Go.Proofs.Ytmccghadgihbpaa.PFrameBack
open Go.RowKit Go.Proofs.YtmccghadgihbpaaW.PrintWords Go.Proofs.YtmccghadgihbpaaW.PrintLast Go.Proofs.YtmccghadgihbpaaW.PrintMore
attribute [local go_sem] max2_int min2_int max_two min_two max_three min_three max_four min_four   -- for this text's walks alone
set_option linter.unusedVariables false
set_option linter.unusedSimpArgs false

/-! ### skiffref10_SameFrames: function 45 -/
def skiffref10_SameFrames.l0 : Nat → List (S58) → List (S58) → Int → Option (Bool)
  | 0, _, _, _ => none
  | k + 1, x0, x1, x5 => if x5 < (x0.length : Int) then (if 0 ≤ x5 then (if x5 < (x1.length : Int) then ((skiffref10_SameFrame.f k ((rd_T58 x0 x5).f0) ((rd_T58 x0 x5).f1) ((rd_T58 x0 x5).f2) ((rd_T58 x0 x5).f3) ((rd_T58 x0 x5).f4) ((rd_T58 x0 x5).f5) ((rd_T58 x0 x5).f6) ((rd_T58 x0 x5).f7) ((rd_T58 x1 x5).f0) ((rd_T58 x1 x5).f1) ((rd_T58 x1 x5).f2) ((rd_T58 x1 x5).f3) ((rd_T58 x1 x5).f4) ((rd_T58 x1 x5).f5) ((rd_T58 x1 x5).f6) ((rd_T58 x1 x5).f7)).bind fun t127 => (if t127 = true then (skiffref10_SameFrames.l0 k x0 x1 (wrap64 (x5 + 1))) else (some false))) else (none)) else (none)) else (some true)
def skiffref10_SameFrames.f (k : Nat) (l0 : List (S58)) (l1 : List (S58)) : Option (Bool) := if (l0.length : Int) = (l1.length : Int) then (skiffref10_SameFrames.l0 k l0 l1 0) else (some false)
theorem skiffref10_SameFrames.mono_l : ∀ k, (∀ y0 y1 y2, LeO (skiffref10_SameFrames.l0 k y0 y1 y2) (skiffref10_SameFrames.l0 (k + 1) y0 y1 y2))
  | 0 => fun _ _ _ r h => by simp [skiffref10_SameFrames.l0] at h
  | k + 1 => by
    have ih0 := skiffref10_SameFrames.mono_l k
    · intro y0 y1 y2
      unfold skiffref10_SameFrames.l0
      repeat' first
      | (with_reducible exact ih0 _ _ _)
      | (with_reducible exact skiffref10_SameFrame.mono _ _ _ _ _ _ _ _ _ _ _ _ _ _ _ _ _)
      | (with_reducible exact LeO.refl _)
      | (with_reducible exact LeO.none _)
      | (with_reducible refine LeO.ite ?_ ?_)
      | (with_reducible refine LeO.bind ?_ (fun _ => ?_))
      | exact ih0 _ _ _
      | exact skiffref10_SameFrame.mono _ _ _ _ _ _ _ _ _ _ _ _ _ _ _ _ _
      | exact LeO.none _
      | refine LeO.ite ?_ ?_
      | refine LeO.bind ?_ (fun _ => ?_)
theorem skiffref10_SameFrames.mono : ∀ a0 a1 k, LeO (skiffref10_SameFrames.f k a0 a1) (skiffref10_SameFrames.f (k + 1) a0 a1) := by
  intro a0 a1 k
  have ih0 := skiffref10_SameFrames.mono_l k
  unfold skiffref10_SameFrames.f
  repeat' first
      | (with_reducible exact ih0 _ _ _)
      | (with_reducible exact skiffref10_SameFrame.mono _ _ _ _ _ _ _ _ _ _ _ _ _ _ _ _ _)
      | (with_reducible exact LeO.refl _)
      | (with_reducible exact LeO.none _)
      | (with_reducible refine LeO.ite ?_ ?_)
      | (with_reducible refine LeO.bind ?_ (fun _ => ?_))
      | exact ih0 _ _ _
      | exact skiffref10_SameFrame.mono _ _ _ _ _ _ _ _ _ _ _ _ _ _ _ _ _
      | exact LeO.none _
      | refine LeO.ite ?_ ?_
      | refine LeO.bind ?_ (fun _ => ?_)
def skiffref10_SameFrames.T6 : Bool × List (List Nat × List Nat) := (true, [([], []), ([], []), ([0, 1], [0, 1]), ([2], [2]), ([], []), ([], []), ([4, 5], [4, 5]), ([6], [6]), ([3, 7], [3, 7]), ([8], [8])])
def skiffref10_SameFrames.B6 : List Nat := [0, 0, 3, 7, 0, 0, 48, 112, 255, 511]
theorem skiffref10_SameFrames.tab6 : rtab .any (opsOf Try.f45 6) = skiffref10_SameFrames.T6 := by kernel_rfl
theorem skiffref10_SameFrames.bits6 : waitsOk skiffref10_SameFrames.T6.2 skiffref10_SameFrames.B6 = true := by kernel_rfl
set_option maxHeartbeats 8000000 in
set_option maxRecDepth 100000 in
theorem skiffref10_SameFrames.calls (k : Nat) (A0 : Option Addr) (c0 : Nat) (l0 : List (S58)) (A1 : Option Addr) (c1 : Nat) (l1 : List (S58)) (r : Bool) (w : World) (hr0 : Kd.C k58 w A0 l0.length l0) (hc0 : l0.length ≤ c0) (hr1 : Kd.C k58 w A1 l1.length l1) (hc1 : l1.length ≤ c1) (h : skiffref10_SameFrames.f k l0 l1 = some r) :
    Calls Try.prog 45 #[.slice A0 l0.length c0, .slice A1 l1.length c1] w fun e w' => e = .returned (.bool r) ∧ Below w.heap.size w w' := by
  have hu58 := Try.underlying58
  have HR0 := Aside0.mk hr0
  have HC0 := Aside0.mk hc0
  clear hr0 hc0
  have HR1 := Aside0.mk hr1
  have HC1 := Aside0.mk hc1
  clear hr1 hc1
  have HB := Aside0.mk (Below.refl w.heap.size w)
  have H : (if (l0.length : Int) = (l1.length : Int) then (skiffref10_SameFrames.l0 k l0 l1 0) else (some false)) = some r := h
  clear h
  by_cases c3 : (l0.length : Int) = (l1.length : Int)
  · rw [if_pos c3] at H
    have c3b0 : ((l0.length : Int) == (l1.length : Int)) = true := beq_iff_eq.mpr c3
    have c3b1 : ((l0.length : Int) != (l1.length : Int)) = false := bne_eq_false_iff_eq.mpr c3
    have c3b2 : (l0.length == l1.length) = true := by first | simpa using c3 | (simp at c3 ⊢; omega)
    clear c3
    have H' := Aside0.mk H
    clear H
    go_enter Try.func45, Try.ntmps45
    go_wp2
    go_loopg [5] k (fun kq v5 w' => ∃ (x5_1 : Int), v5 = .int .i64 x5_1 ∧ Aside0 (skiffref10_SameFrames.l0 kq l0 l1 x5_1 = some r) ∧ Aside0 (kq ≤ k) ∧ Aside0 (Below w.heap.size w w'))
    case atStart => exact ⟨(0), (by first | rfl | (simp; done) | (simp [*]; done)), H', ⟨Nat.le_refl _⟩, ⟨by repeat (first | (with_reducible first | exact HB.out | apply below_alloc | apply pw_below_drewN | apply below_drew1) | exact HB.out)⟩⟩
    case round =>
      clear H'
      try clear c1
      try clear p2
      try clear c3
      try clear c3b0
      try clear c3b1
      try clear c3b2
      obtain ⟨x5_1, rfl, HA, HK1, HB⟩ := hrel
      cases gk with
      | zero => exact absurd HA.out (by simp [skiffref10_SameFrames.l0])
      | succ k1 =>
        have H := HA.out
        clear HA
        simp only [skiffref10_SameFrames.l0] at H
        by_cases c4 : x5_1 < (l0.length : Int)
        · rw [if_pos c4] at H
          have c4b0 : decide (x5_1 < (l0.length : Int)) = true := decide_eq_true c4
          clear c4
          by_cases c5 : 0 ≤ x5_1
          · rw [if_pos c5] at H
            have c5b0 : decide (0 ≤ x5_1) = true := decide_eq_true c5
            clear c5
            by_cases c6 : x5_1 < (l1.length : Int)
            · rw [if_pos c6] at H
              have c6b0 : decide (x5_1 < (l1.length : Int)) = true := decide_eq_true c6
              clear c6
              replace H := Option.bind_eq_some_iff.mp H
              obtain ⟨t127, A70, H⟩ := H
              replace H : (if t127 = true then (skiffref10_SameFrames.l0 k1 l0 l1 (wrap64 (x5_1 + 1))) else (some false)) = some r := H
              have A7 := Aside0.mk A70
              clear A70
              by_cases c8 : t127 = true
              · subst c8
                have H1 : (skiffref10_SameFrames.l0 k1 l0 l1 (wrap64 (x5_1 + 1))) = some r := by rw [if_pos rfl] at H; exact H
                clear H
                have H := H1
                clear H1
                have H' := Aside0.mk H
                clear H
                try go_wp2
                have n0_ := Aside0.mk (below_drew1 HB.out)
                clear HB
                have HB := n0_
                clear n0_
                have p125 : 0 ≤ (x5_1 : Int) := of_decide_eq_true (by first | (with_reducible assumption) | assumption)
                have q125 : x5_1 < (l0.length : Int) := of_decide_eq_true (by first | (with_reducible assumption) | assumption)
                obtain ⟨ad125, A125_6, c125_6, A125_7, c125_7, e125, hx125_0, hx125_1, hx125_2, hx125_3, hx125_4, hx125_5, hx125_6, hx125_7, hl125_6, hi125_6, hl125_7, hi125_7⟩ := at_T58 HR0.out x5_1 p125 q125
                have hw125_7 := hx125_7
                have hw125_6 := hx125_6
                have hw125_5 := hx125_5
                have hw125_4 := hx125_4
                have hw125_3 := hx125_3
                have hw125_2 := hx125_2
                have hw125_1 := hx125_1
                have hw125_0 := hx125_0
                cases e125
                replace hx125_0 := (HB.out.cell (World.block_lt_of_cell? w _ hx125_0)).trans hx125_0
                replace hx125_1 := (HB.out.cell (World.block_lt_of_cell? w _ hx125_1)).trans hx125_1
                replace hx125_2 := (HB.out.cell (World.block_lt_of_cell? w _ hx125_2)).trans hx125_2
                replace hx125_3 := (HB.out.cell (World.block_lt_of_cell? w _ hx125_3)).trans hx125_3
                replace hx125_4 := (HB.out.cell (World.block_lt_of_cell? w _ hx125_4)).trans hx125_4
                replace hx125_5 := (HB.out.cell (World.block_lt_of_cell? w _ hx125_5)).trans hx125_5
                replace hx125_6 := (HB.out.cell (World.block_lt_of_cell? w _ hx125_6)).trans hx125_6
                replace hx125_7 := (HB.out.cell (World.block_lt_of_cell? w _ hx125_7)).trans hx125_7
                have HR125_6 := Aside0.mk hi125_6
                have HC125_6 := Aside0.mk hl125_6
                clear hi125_6 hl125_6
                have HR125_7 := Aside0.mk hi125_7
                have HC125_7 := Aside0.mk hl125_7
                clear hi125_7 hl125_7
                replace p125 := eq_true p125
                replace q125 := eq_true q125
                have p126 : 0 ≤ (x5_1 : Int) := of_decide_eq_true (by first | (with_reducible assumption) | assumption)
                have q126 : x5_1 < (l1.length : Int) := of_decide_eq_true (by first | (with_reducible assumption) | assumption)
                obtain ⟨ad126, A126_6, c126_6, A126_7, c126_7, e126, hx126_0, hx126_1, hx126_2, hx126_3, hx126_4, hx126_5, hx126_6, hx126_7, hl126_6, hi126_6, hl126_7, hi126_7⟩ := at_T58 HR1.out x5_1 p126 q126
                have hw126_7 := hx126_7
                have hw126_6 := hx126_6
                have hw126_5 := hx126_5
                have hw126_4 := hx126_4
                have hw126_3 := hx126_3
                have hw126_2 := hx126_2
                have hw126_1 := hx126_1
                have hw126_0 := hx126_0
                cases e126
                replace hx126_0 := (HB.out.cell (World.block_lt_of_cell? w _ hx126_0)).trans hx126_0
                replace hx126_1 := (HB.out.cell (World.block_lt_of_cell? w _ hx126_1)).trans hx126_1
                replace hx126_2 := (HB.out.cell (World.block_lt_of_cell? w _ hx126_2)).trans hx126_2
                replace hx126_3 := (HB.out.cell (World.block_lt_of_cell? w _ hx126_3)).trans hx126_3
                replace hx126_4 := (HB.out.cell (World.block_lt_of_cell? w _ hx126_4)).trans hx126_4
                replace hx126_5 := (HB.out.cell (World.block_lt_of_cell? w _ hx126_5)).trans hx126_5
                replace hx126_6 := (HB.out.cell (World.block_lt_of_cell? w _ hx126_6)).trans hx126_6
                replace hx126_7 := (HB.out.cell (World.block_lt_of_cell? w _ hx126_7)).trans hx126_7
                have HR126_6 := Aside0.mk hi126_6
                have HC126_6 := Aside0.mk hl126_6
                clear hi126_6 hl126_6
                have HR126_7 := Aside0.mk hi126_7
                have HC126_7 := Aside0.mk hl126_7
                clear hi126_7 hl126_7
                replace p126 := eq_true p126
                replace q126 := eq_true q126
                refine start_ (n := 10) (S := fun w' => w'.cell? (ad125.add ((x5_1).toNat * 8)) = some (.int .u64 ((rd_T58 l0 x5_1).f0)) ∧ w'.cell? ⟨(ad125.add ((x5_1).toNat * 8)).block, (ad125.add ((x5_1).toNat * 8)).off + 1, none⟩ = some (.int .u64 ((rd_T58 l0 x5_1).f1)) ∧ w'.cell? ⟨(ad125.add ((x5_1).toNat * 8)).block, (ad125.add ((x5_1).toNat * 8)).off + 2, none⟩ = some (.int .u64 ((rd_T58 l0 x5_1).f2)) ∧ w'.cell? ⟨(ad125.add ((x5_1).toNat * 8)).block, (ad125.add ((x5_1).toNat * 8)).off + 3, none⟩ = some (.int .u64 ((rd_T58 l0 x5_1).f3)) ∧ w'.cell? ⟨(ad125.add ((x5_1).toNat * 8)).block, (ad125.add ((x5_1).toNat * 8)).off + 4, none⟩ = some (.int .u64 ((rd_T58 l0 x5_1).f4)) ∧ w'.cell? ⟨(ad125.add ((x5_1).toNat * 8)).block, (ad125.add ((x5_1).toNat * 8)).off + 5, none⟩ = some (.bool ((rd_T58 l0 x5_1).f5)) ∧ w'.cell? ⟨(ad125.add ((x5_1).toNat * 8)).block, (ad125.add ((x5_1).toNat * 8)).off + 6, none⟩ = some (.slice A125_6 ((rd_T58 l0 x5_1).f6).length c125_6) ∧ w'.cell? ⟨(ad125.add ((x5_1).toNat * 8)).block, (ad125.add ((x5_1).toNat * 8)).off + 7, none⟩ = some (.slice A125_7 ((rd_T58 l0 x5_1).f7).length c125_7) ∧ w'.cell? (ad126.add ((x5_1).toNat * 8)) = some (.int .u64 ((rd_T58 l1 x5_1).f0)) ∧ w'.cell? ⟨(ad126.add ((x5_1).toNat * 8)).block, (ad126.add ((x5_1).toNat * 8)).off + 1, none⟩ = some (.int .u64 ((rd_T58 l1 x5_1).f1)) ∧ w'.cell? ⟨(ad126.add ((x5_1).toNat * 8)).block, (ad126.add ((x5_1).toNat * 8)).off + 2, none⟩ = some (.int .u64 ((rd_T58 l1 x5_1).f2)) ∧ w'.cell? ⟨(ad126.add ((x5_1).toNat * 8)).block, (ad126.add ((x5_1).toNat * 8)).off + 3, none⟩ = some (.int .u64 ((rd_T58 l1 x5_1).f3)) ∧ w'.cell? ⟨(ad126.add ((x5_1).toNat * 8)).block, (ad126.add ((x5_1).toNat * 8)).off + 4, none⟩ = some (.int .u64 ((rd_T58 l1 x5_1).f4)) ∧ w'.cell? ⟨(ad126.add ((x5_1).toNat * 8)).block, (ad126.add ((x5_1).toNat * 8)).off + 5, none⟩ = some (.bool ((rd_T58 l1 x5_1).f5)) ∧ w'.cell? ⟨(ad126.add ((x5_1).toNat * 8)).block, (ad126.add ((x5_1).toNat * 8)).off + 6, none⟩ = some (.slice A126_6 ((rd_T58 l1 x5_1).f6).length c126_6) ∧ w'.cell? ⟨(ad126.add ((x5_1).toNat * 8)).block, (ad126.add ((x5_1).toNat * 8)).off + 7, none⟩ = some (.slice A126_7 ((rd_T58 l1 x5_1).f7).length c126_7)) (ds := []) #[false, false, false, false, false, false, false, false, false, false] (by kernel_rfl) rfl rfl ⟨((HB.out.cell (World.block_lt_of_cell? w _ hw125_0)).trans hw125_0), ((HB.out.cell (World.block_lt_of_cell? w _ hw125_1)).trans hw125_1), ((HB.out.cell (World.block_lt_of_cell? w _ hw125_2)).trans hw125_2), ((HB.out.cell (World.block_lt_of_cell? w _ hw125_3)).trans hw125_3), ((HB.out.cell (World.block_lt_of_cell? w _ hw125_4)).trans hw125_4), ((HB.out.cell (World.block_lt_of_cell? w _ hw125_5)).trans hw125_5), ((HB.out.cell (World.block_lt_of_cell? w _ hw125_6)).trans hw125_6), ((HB.out.cell (World.block_lt_of_cell? w _ hw125_7)).trans hw125_7), ((HB.out.cell (World.block_lt_of_cell? w _ hw126_0)).trans hw126_0), ((HB.out.cell (World.block_lt_of_cell? w _ hw126_1)).trans hw126_1), ((HB.out.cell (World.block_lt_of_cell? w _ hw126_2)).trans hw126_2), ((HB.out.cell (World.block_lt_of_cell? w _ hw126_3)).trans hw126_3), ((HB.out.cell (World.block_lt_of_cell? w _ hw126_4)).trans hw126_4), ((HB.out.cell (World.block_lt_of_cell? w _ hw126_5)).trans hw126_5), ((HB.out.cell (World.block_lt_of_cell? w _ hw126_6)).trans hw126_6), ((HB.out.cell (World.block_lt_of_cell? w _ hw126_7)).trans hw126_7)⟩ (fun hHeld => ?_); refine with_tabW skiffref10_SameFrames.tab6 skiffref10_SameFrames.bits6 (fun HT_ HW_ => ?_)
                generalize wr.drew = w9 at HB HR125_6 HR125_7 HR126_6 HR126_7 hx125_0 hx125_1 hx125_2 hx125_3 hx125_4 hx125_5 hx125_6 hx125_7 hx126_0 hx126_1 hx126_2 hx126_3 hx126_4 hx126_5 hx126_6 hx126_7 hHeld ⊢
                refine pure_ (i := 0) (N := some 17) (v := ?_) (a' := ?_) #[true, false, false, false, false, false, false, false, false, false] rfl rfl (any_of HT_.out (by kernel_rfl)) (fun _ _ _ h => h) (Or.inl ⟨by rfl, ?_⟩) ?_ ?_
                rotate_left
                · intro w'
                  go_simp
                  with_reducible rfl
                rotate_left
                · simp only [Act.put, List.setIfInBounds_toArray, List.set_cons_zero, List.set_cons_succ, i64_w, i32_w]
                  rfl
                refine pure_ (i := 1) (N := some 18) (v := ?_) (a' := ?_) #[true, true, false, false, false, false, false, false, false, false] rfl rfl (any_of HT_.out (by kernel_rfl)) (fun _ _ _ h => h) (Or.inl ⟨by rfl, ?_⟩) ?_ ?_
                rotate_left
                · intro w'
                  go_simp
                  with_reducible rfl
                rotate_left
                · simp only [Act.put, List.setIfInBounds_toArray, List.set_cons_zero, List.set_cons_succ, i64_w, i32_w]
                  rfl
                refine pure_ (i := 2) (N := some 19) (v := ?_) (a' := ?_) #[true, true, true, false, false, false, false, false, false, false] rfl rfl (any_of HT_.out (by kernel_rfl)) (fun _ _ _ h => h) (Or.inl ⟨by rfl, ?_⟩) ?_ ?_
                rotate_left
                · intro w'
                  go_simp
                  with_reducible rfl
                rotate_left
                · simp only [Act.put, List.setIfInBounds_toArray, List.set_cons_zero, List.set_cons_succ, i64_w, i32_w]
                  rfl
                refine pure_ (i := 4) (N := some 21) (v := ?_) (a' := ?_) #[true, true, true, false, true, false, false, false, false, false] rfl rfl (any_of HT_.out (by kernel_rfl)) (fun _ _ _ h => h) (Or.inl ⟨by rfl, ?_⟩) ?_ ?_
                rotate_left
                · intro w'
                  go_simp
                  with_reducible rfl
                rotate_left
                · simp only [Act.put, List.setIfInBounds_toArray, List.set_cons_zero, List.set_cons_succ, i64_w, i32_w]
                  rfl
                refine pure_ (i := 5) (N := some 22) (v := ?_) (a' := ?_) #[true, true, true, false, true, true, false, false, false, false] rfl rfl (any_of HT_.out (by kernel_rfl)) (fun _ _ _ h => h) (Or.inl ⟨by rfl, ?_⟩) ?_ ?_
                rotate_left
                · intro w'
                  go_simp
                  with_reducible rfl
                rotate_left
                · simp only [Act.put, List.setIfInBounds_toArray, List.set_cons_zero, List.set_cons_succ, i64_w, i32_w]
                  rfl
                refine pure_ (i := 6) (N := some 23) (v := ?_) (a' := ?_) #[true, true, true, false, true, true, true, false, false, false] rfl rfl (any_of HT_.out (by kernel_rfl)) (fun _ _ _ h => h) (Or.inl ⟨by rfl, ?_⟩) ?_ ?_
                rotate_left
                · intro w'
                  go_simp
                  with_reducible rfl
                rotate_left
                · simp only [Act.put, List.setIfInBounds_toArray, List.set_cons_zero, List.set_cons_succ, i64_w, i32_w]
                  rfl
                refine take_ (i := 3) (N := some 20) (v := ?_) (a' := ?_) #[true, true, true, true, true, true, true, false, false, false] rfl rfl (take_ofW HT_.out HW_.out (by kernel_rfl)) (fun _ _ _ h => h) (Or.inl ⟨by rfl, ?_⟩) hHeld ?_ ?_
                rotate_left
                · rintro w' ⟨s0, s1, s2, s3, s4, s5, s6, s7, s8, s9, s10, s11, s12, s13, s14, s15⟩
                  go_simp
                  with_reducible rfl
                rotate_left
                · simp only [Act.put, List.setIfInBounds_toArray, List.set_cons_zero, List.set_cons_succ, i64_w, i32_w]
                  rfl
                refine take_ (i := 7) (N := some 24) (v := ?_) (a' := ?_) #[true, true, true, true, true, true, true, true, false, false] rfl rfl (take_ofW HT_.out HW_.out (by kernel_rfl)) (fun _ _ _ h => h) (Or.inl ⟨by rfl, ?_⟩) hHeld ?_ ?_
                rotate_left
                · rintro w' ⟨s0, s1, s2, s3, s4, s5, s6, s7, s8, s9, s10, s11, s12, s13, s14, s15⟩
                  go_simp
                  with_reducible rfl
                rotate_left
                · simp only [Act.put, List.setIfInBounds_toArray, List.set_cons_zero, List.set_cons_succ, i64_w, i32_w]
                  rfl
                refine one_ (i := 8) (N := some 25) #[true, true, true, true, true, true, true, true, true, false] rfl rfl (one_of HT_.out (by kernel_rfl)) (by decide) (fun K hK => ?_)
                refine goes_ Try.func53 (by kernel_rfl) rfl #[.agg #[.int .u64 ((rd_T58 l0 x5_1).f0), .int .u64 ((rd_T58 l0 x5_1).f1), .int .u64 ((rd_T58 l0 x5_1).f2), .int .u64 ((rd_T58 l0 x5_1).f3), .int .u64 ((rd_T58 l0 x5_1).f4), .bool ((rd_T58 l0 x5_1).f5), .slice A125_6 ((rd_T58 l0 x5_1).f6).length c125_6, .slice A125_7 ((rd_T58 l0 x5_1).f7).length c125_7], .agg #[.int .u64 ((rd_T58 l1 x5_1).f0), .int .u64 ((rd_T58 l1 x5_1).f1), .int .u64 ((rd_T58 l1 x5_1).f2), .int .u64 ((rd_T58 l1 x5_1).f3), .int .u64 ((rd_T58 l1 x5_1).f4), .bool ((rd_T58 l1 x5_1).f5), .slice A126_6 ((rd_T58 l1 x5_1).f6).length c126_6, .slice A126_7 ((rd_T58 l1 x5_1).f7).length c126_7]] (by rfl) rfl rfl (by (try simp only [List.map_toArray, List.map_cons, List.map_nil]); first | done | rfl | (simp only [List.length_drop, List.length_take]; rfl)) ?_
                with_reducible refine (skiffref10_SameFrame.calls k1 ((rd_T58 l0 x5_1).f0) ((rd_T58 l0 x5_1).f1) ((rd_T58 l0 x5_1).f2) ((rd_T58 l0 x5_1).f3) ((rd_T58 l0 x5_1).f4) ((rd_T58 l0 x5_1).f5) _ _ ((rd_T58 l0 x5_1).f6) _ _ ((rd_T58 l0 x5_1).f7) ((rd_T58 l1 x5_1).f0) ((rd_T58 l1 x5_1).f1) ((rd_T58 l1 x5_1).f2) ((rd_T58 l1 x5_1).f3) ((rd_T58 l1 x5_1).f4) ((rd_T58 l1 x5_1).f5) _ _ ((rd_T58 l1 x5_1).f6) _ _ ((rd_T58 l1 x5_1).f7) true _ ?side1 ?side2 ?side3 ?side4 ?side5 ?side6 ?side7 ?side8 A7.out).mono ?_
                (case side1 => repeat (first | exact (Kd.C_below HR125_6.out HB.out) | (with_reducible refine Kd.C_alloc ?_ _) | (with_reducible refine Kd.C_drewN ?_ _) | (with_reducible refine Kd.C_drew ?_)))
                (case side2 => exact HC125_6.out)
                (case side3 => repeat (first | exact (Kd.C_below HR125_7.out HB.out) | (with_reducible refine Kd.C_alloc ?_ _) | (with_reducible refine Kd.C_drewN ?_ _) | (with_reducible refine Kd.C_drew ?_)))
                (case side4 => exact HC125_7.out)
                (case side5 => repeat (first | exact (Kd.C_below HR126_6.out HB.out) | (with_reducible refine Kd.C_alloc ?_ _) | (with_reducible refine Kd.C_drewN ?_ _) | (with_reducible refine Kd.C_drew ?_)))
                (case side6 => exact HC126_6.out)
                (case side7 => repeat (first | exact (Kd.C_below HR126_7.out HB.out) | (with_reducible refine Kd.C_alloc ?_ _) | (with_reducible refine Kd.C_drewN ?_ _) | (with_reducible refine Kd.C_drew ?_)))
                (case side8 => exact HC126_7.out)
                rintro e w10 ⟨rfl, hb⟩
                refine ⟨_, rfl, ?_⟩
                have n0_ := Aside0.mk (below_step (by repeat (first | (with_reducible first | exact HB.out | apply below_alloc | apply pw_below_drewN | apply below_drew1) | exact HB.out)) hb)
                clear HB
                have HB := n0_
                clear n0_
                (try clear hb)
                (try clear hb2)
                (try clear hk)
                (try clear hi)
                refine hK.out _ _ ⟨((HB.out.cell (World.block_lt_of_cell? w _ hw125_0)).trans hw125_0), ((HB.out.cell (World.block_lt_of_cell? w _ hw125_1)).trans hw125_1), ((HB.out.cell (World.block_lt_of_cell? w _ hw125_2)).trans hw125_2), ((HB.out.cell (World.block_lt_of_cell? w _ hw125_3)).trans hw125_3), ((HB.out.cell (World.block_lt_of_cell? w _ hw125_4)).trans hw125_4), ((HB.out.cell (World.block_lt_of_cell? w _ hw125_5)).trans hw125_5), ((HB.out.cell (World.block_lt_of_cell? w _ hw125_6)).trans hw125_6), ((HB.out.cell (World.block_lt_of_cell? w _ hw125_7)).trans hw125_7), ((HB.out.cell (World.block_lt_of_cell? w _ hw126_0)).trans hw126_0), ((HB.out.cell (World.block_lt_of_cell? w _ hw126_1)).trans hw126_1), ((HB.out.cell (World.block_lt_of_cell? w _ hw126_2)).trans hw126_2), ((HB.out.cell (World.block_lt_of_cell? w _ hw126_3)).trans hw126_3), ((HB.out.cell (World.block_lt_of_cell? w _ hw126_4)).trans hw126_4), ((HB.out.cell (World.block_lt_of_cell? w _ hw126_5)).trans hw126_5), ((HB.out.cell (World.block_lt_of_cell? w _ hw126_6)).trans hw126_6), ((HB.out.cell (World.block_lt_of_cell? w _ hw126_7)).trans hw126_7)⟩ (fun hHeld => ?_)
                clear hK K
                refine norm_ (a' := ?_) ?_ ?_
                rotate_left
                · show Act.put _ (some 25) _ = _
                  simp only [Act.put, List.setIfInBounds_toArray, List.set_cons_zero, List.set_cons_succ, i64_w, i32_w]
                  rfl
                refine pure_ (i := 9) (N := some 26) (v := ?_) (a' := ?_) #[true, true, true, true, true, true, true, true, true, true] rfl rfl (any_of HT_.out (by kernel_rfl)) (fun _ _ _ h => h) (Or.inl ⟨by rfl, ?_⟩) ?_ ?_
                rotate_left
                · intro w'
                  go_simp
                  with_reducible rfl
                rotate_left
                · simp only [Act.put, List.setIfInBounds_toArray, List.set_cons_zero, List.set_cons_succ, i64_w, i32_w]
                  rfl
                refine done_ (done_of HT_.out (by kernel_rfl)) ?_
                try go_wp2
                go_roundg k1
                case measure => have := HK1.out; omega
                case rel => exact ⟨(wrap64 (x5_1 + 1)), (by first | rfl | (simp; done) | (simp [*]; done)), H', ⟨by have := HK1.out; omega⟩, ⟨by repeat (first | (with_reducible first | exact HB.out | apply below_alloc | apply pw_below_drewN | apply below_drew1) | exact HB.out)⟩⟩
              · replace c8 := Bool.eq_false_iff.mpr c8
                subst c8
                have H1 : (some false) = some r := by rw [if_neg (show ¬ (false = true) by decide)] at H; exact H
                clear H
                have H := H1
                clear H1
                obtain rfl := Option.some.inj H
                try go_wp2
                have n0_ := Aside0.mk (below_drew1 HB.out)
                clear HB
                have HB := n0_
                clear n0_
                have p125 : 0 ≤ (x5_1 : Int) := of_decide_eq_true (by first | (with_reducible assumption) | assumption)
                have q125 : x5_1 < (l0.length : Int) := of_decide_eq_true (by first | (with_reducible assumption) | assumption)
                obtain ⟨ad125, A125_6, c125_6, A125_7, c125_7, e125, hx125_0, hx125_1, hx125_2, hx125_3, hx125_4, hx125_5, hx125_6, hx125_7, hl125_6, hi125_6, hl125_7, hi125_7⟩ := at_T58 HR0.out x5_1 p125 q125
                have hw125_7 := hx125_7
                have hw125_6 := hx125_6
                have hw125_5 := hx125_5
                have hw125_4 := hx125_4
                have hw125_3 := hx125_3
                have hw125_2 := hx125_2
                have hw125_1 := hx125_1
                have hw125_0 := hx125_0
                cases e125
                replace hx125_0 := (HB.out.cell (World.block_lt_of_cell? w _ hx125_0)).trans hx125_0
                replace hx125_1 := (HB.out.cell (World.block_lt_of_cell? w _ hx125_1)).trans hx125_1
                replace hx125_2 := (HB.out.cell (World.block_lt_of_cell? w _ hx125_2)).trans hx125_2
                replace hx125_3 := (HB.out.cell (World.block_lt_of_cell? w _ hx125_3)).trans hx125_3
                replace hx125_4 := (HB.out.cell (World.block_lt_of_cell? w _ hx125_4)).trans hx125_4
                replace hx125_5 := (HB.out.cell (World.block_lt_of_cell? w _ hx125_5)).trans hx125_5
                replace hx125_6 := (HB.out.cell (World.block_lt_of_cell? w _ hx125_6)).trans hx125_6
                replace hx125_7 := (HB.out.cell (World.block_lt_of_cell? w _ hx125_7)).trans hx125_7
                have HR125_6 := Aside0.mk hi125_6
                have HC125_6 := Aside0.mk hl125_6
                clear hi125_6 hl125_6
                have HR125_7 := Aside0.mk hi125_7
                have HC125_7 := Aside0.mk hl125_7
                clear hi125_7 hl125_7
                replace p125 := eq_true p125
                replace q125 := eq_true q125
                have p126 : 0 ≤ (x5_1 : Int) := of_decide_eq_true (by first | (with_reducible assumption) | assumption)
                have q126 : x5_1 < (l1.length : Int) := of_decide_eq_true (by first | (with_reducible assumption) | assumption)
                obtain ⟨ad126, A126_6, c126_6, A126_7, c126_7, e126, hx126_0, hx126_1, hx126_2, hx126_3, hx126_4, hx126_5, hx126_6, hx126_7, hl126_6, hi126_6, hl126_7, hi126_7⟩ := at_T58 HR1.out x5_1 p126 q126
                have hw126_7 := hx126_7
                have hw126_6 := hx126_6
                have hw126_5 := hx126_5
                have hw126_4 := hx126_4
                have hw126_3 := hx126_3
                have hw126_2 := hx126_2
                have hw126_1 := hx126_1
                have hw126_0 := hx126_0
                cases e126
                replace hx126_0 := (HB.out.cell (World.block_lt_of_cell? w _ hx126_0)).trans hx126_0
                replace hx126_1 := (HB.out.cell (World.block_lt_of_cell? w _ hx126_1)).trans hx126_1
                replace hx126_2 := (HB.out.cell (World.block_lt_of_cell? w _ hx126_2)).trans hx126_2
                replace hx126_3 := (HB.out.cell (World.block_lt_of_cell? w _ hx126_3)).trans hx126_3
                replace hx126_4 := (HB.out.cell (World.block_lt_of_cell? w _ hx126_4)).trans hx126_4
                replace hx126_5 := (HB.out.cell (World.block_lt_of_cell? w _ hx126_5)).trans hx126_5
                replace hx126_6 := (HB.out.cell (World.block_lt_of_cell? w _ hx126_6)).trans hx126_6
                replace hx126_7 := (HB.out.cell (World.block_lt_of_cell? w _ hx126_7)).trans hx126_7
                have HR126_6 := Aside0.mk hi126_6
                have HC126_6 := Aside0.mk hl126_6
                clear hi126_6 hl126_6
                have HR126_7 := Aside0.mk hi126_7
                have HC126_7 := Aside0.mk hl126_7
                clear hi126_7 hl126_7
                replace p126 := eq_true p126
                replace q126 := eq_true q126
                refine start_ (n := 10) (S := fun w' => w'.cell? (ad125.add ((x5_1).toNat * 8)) = some (.int .u64 ((rd_T58 l0 x5_1).f0)) ∧ w'.cell? ⟨(ad125.add ((x5_1).toNat * 8)).block, (ad125.add ((x5_1).toNat * 8)).off + 1, none⟩ = some (.int .u64 ((rd_T58 l0 x5_1).f1)) ∧ w'.cell? ⟨(ad125.add ((x5_1).toNat * 8)).block, (ad125.add ((x5_1).toNat * 8)).off + 2, none⟩ = some (.int .u64 ((rd_T58 l0 x5_1).f2)) ∧ w'.cell? ⟨(ad125.add ((x5_1).toNat * 8)).block, (ad125.add ((x5_1).toNat * 8)).off + 3, none⟩ = some (.int .u64 ((rd_T58 l0 x5_1).f3)) ∧ w'.cell? ⟨(ad125.add ((x5_1).toNat * 8)).block, (ad125.add ((x5_1).toNat * 8)).off + 4, none⟩ = some (.int .u64 ((rd_T58 l0 x5_1).f4)) ∧ w'.cell? ⟨(ad125.add ((x5_1).toNat * 8)).block, (ad125.add ((x5_1).toNat * 8)).off + 5, none⟩ = some (.bool ((rd_T58 l0 x5_1).f5)) ∧ w'.cell? ⟨(ad125.add ((x5_1).toNat * 8)).block, (ad125.add ((x5_1).toNat * 8)).off + 6, none⟩ = some (.slice A125_6 ((rd_T58 l0 x5_1).f6).length c125_6) ∧ w'.cell? ⟨(ad125.add ((x5_1).toNat * 8)).block, (ad125.add ((x5_1).toNat * 8)).off + 7, none⟩ = some (.slice A125_7 ((rd_T58 l0 x5_1).f7).length c125_7) ∧ w'.cell? (ad126.add ((x5_1).toNat * 8)) = some (.int .u64 ((rd_T58 l1 x5_1).f0)) ∧ w'.cell? ⟨(ad126.add ((x5_1).toNat * 8)).block, (ad126.add ((x5_1).toNat * 8)).off + 1, none⟩ = some (.int .u64 ((rd_T58 l1 x5_1).f1)) ∧ w'.cell? ⟨(ad126.add ((x5_1).toNat * 8)).block, (ad126.add ((x5_1).toNat * 8)).off + 2, none⟩ = some (.int .u64 ((rd_T58 l1 x5_1).f2)) ∧ w'.cell? ⟨(ad126.add ((x5_1).toNat * 8)).block, (ad126.add ((x5_1).toNat * 8)).off + 3, none⟩ = some (.int .u64 ((rd_T58 l1 x5_1).f3)) ∧ w'.cell? ⟨(ad126.add ((x5_1).toNat * 8)).block, (ad126.add ((x5_1).toNat * 8)).off + 4, none⟩ = some (.int .u64 ((rd_T58 l1 x5_1).f4)) ∧ w'.cell? ⟨(ad126.add ((x5_1).toNat * 8)).block, (ad126.add ((x5_1).toNat * 8)).off + 5, none⟩ = some (.bool ((rd_T58 l1 x5_1).f5)) ∧ w'.cell? ⟨(ad126.add ((x5_1).toNat * 8)).block, (ad126.add ((x5_1).toNat * 8)).off + 6, none⟩ = some (.slice A126_6 ((rd_T58 l1 x5_1).f6).length c126_6) ∧ w'.cell? ⟨(ad126.add ((x5_1).toNat * 8)).block, (ad126.add ((x5_1).toNat * 8)).off + 7, none⟩ = some (.slice A126_7 ((rd_T58 l1 x5_1).f7).length c126_7)) (ds := []) #[false, false, false, false, false, false, false, false, false, false] (by kernel_rfl) rfl rfl ⟨((HB.out.cell (World.block_lt_of_cell? w _ hw125_0)).trans hw125_0), ((HB.out.cell (World.block_lt_of_cell? w _ hw125_1)).trans hw125_1), ((HB.out.cell (World.block_lt_of_cell? w _ hw125_2)).trans hw125_2), ((HB.out.cell (World.block_lt_of_cell? w _ hw125_3)).trans hw125_3), ((HB.out.cell (World.block_lt_of_cell? w _ hw125_4)).trans hw125_4), ((HB.out.cell (World.block_lt_of_cell? w _ hw125_5)).trans hw125_5), ((HB.out.cell (World.block_lt_of_cell? w _ hw125_6)).trans hw125_6), ((HB.out.cell (World.block_lt_of_cell? w _ hw125_7)).trans hw125_7), ((HB.out.cell (World.block_lt_of_cell? w _ hw126_0)).trans hw126_0), ((HB.out.cell (World.block_lt_of_cell? w _ hw126_1)).trans hw126_1), ((HB.out.cell (World.block_lt_of_cell? w _ hw126_2)).trans hw126_2), ((HB.out.cell (World.block_lt_of_cell? w _ hw126_3)).trans hw126_3), ((HB.out.cell (World.block_lt_of_cell? w _ hw126_4)).trans hw126_4), ((HB.out.cell (World.block_lt_of_cell? w _ hw126_5)).trans hw126_5), ((HB.out.cell (World.block_lt_of_cell? w _ hw126_6)).trans hw126_6), ((HB.out.cell (World.block_lt_of_cell? w _ hw126_7)).trans hw126_7)⟩ (fun hHeld => ?_); refine with_tabW skiffref10_SameFrames.tab6 skiffref10_SameFrames.bits6 (fun HT_ HW_ => ?_)
                generalize wr.drew = w11 at HB HR125_6 HR125_7 HR126_6 HR126_7 hx125_0 hx125_1 hx125_2 hx125_3 hx125_4 hx125_5 hx125_6 hx125_7 hx126_0 hx126_1 hx126_2 hx126_3 hx126_4 hx126_5 hx126_6 hx126_7 hHeld ⊢
                refine pure_ (i := 0) (N := some 17) (v := ?_) (a' := ?_) #[true, false, false, false, false, false, false, false, false, false] rfl rfl (any_of HT_.out (by kernel_rfl)) (fun _ _ _ h => h) (Or.inl ⟨by rfl, ?_⟩) ?_ ?_
                rotate_left
                · intro w'
                  go_simp
                  with_reducible rfl
                rotate_left
                · simp only [Act.put, List.setIfInBounds_toArray, List.set_cons_zero, List.set_cons_succ, i64_w, i32_w]
                  rfl
                refine pure_ (i := 1) (N := some 18) (v := ?_) (a' := ?_) #[true, true, false, false, false, false, false, false, false, false] rfl rfl (any_of HT_.out (by kernel_rfl)) (fun _ _ _ h => h) (Or.inl ⟨by rfl, ?_⟩) ?_ ?_
                rotate_left
                · intro w'
                  go_simp
                  with_reducible rfl
                rotate_left
                · simp only [Act.put, List.setIfInBounds_toArray, List.set_cons_zero, List.set_cons_succ, i64_w, i32_w]
                  rfl
                refine pure_ (i := 2) (N := some 19) (v := ?_) (a' := ?_) #[true, true, true, false, false, false, false, false, false, false] rfl rfl (any_of HT_.out (by kernel_rfl)) (fun _ _ _ h => h) (Or.inl ⟨by rfl, ?_⟩) ?_ ?_
                rotate_left
                · intro w'
                  go_simp
                  with_reducible rfl
                rotate_left
                · simp only [Act.put, List.setIfInBounds_toArray, List.set_cons_zero, List.set_cons_succ, i64_w, i32_w]
                  rfl
                refine pure_ (i := 4) (N := some 21) (v := ?_) (a' := ?_) #[true, true, true, false, true, false, false, false, false, false] rfl rfl (any_of HT_.out (by kernel_rfl)) (fun _ _ _ h => h) (Or.inl ⟨by rfl, ?_⟩) ?_ ?_
                rotate_left
                · intro w'
                  go_simp
                  with_reducible rfl
                rotate_left
                · simp only [Act.put, List.setIfInBounds_toArray, List.set_cons_zero, List.set_cons_succ, i64_w, i32_w]
                  rfl
                refine pure_ (i := 5) (N := some 22) (v := ?_) (a' := ?_) #[true, true, true, false, true, true, false, false, false, false] rfl rfl (any_of HT_.out (by kernel_rfl)) (fun _ _ _ h => h) (Or.inl ⟨by rfl, ?_⟩) ?_ ?_
                rotate_left
                · intro w'
                  go_simp
                  with_reducible rfl
                rotate_left
                · simp only [Act.put, List.setIfInBounds_toArray, List.set_cons_zero, List.set_cons_succ, i64_w, i32_w]
                  rfl
                refine pure_ (i := 6) (N := some 23) (v := ?_) (a' := ?_) #[true, true, true, false, true, true, true, false, false, false] rfl rfl (any_of HT_.out (by kernel_rfl)) (fun _ _ _ h => h) (Or.inl ⟨by rfl, ?_⟩) ?_ ?_
                rotate_left
                · intro w'
                  go_simp
                  with_reducible rfl
                rotate_left
                · simp only [Act.put, List.setIfInBounds_toArray, List.set_cons_zero, List.set_cons_succ, i64_w, i32_w]
                  rfl
                refine take_ (i := 3) (N := some 20) (v := ?_) (a' := ?_) #[true, true, true, true, true, true, true, false, false, false] rfl rfl (take_ofW HT_.out HW_.out (by kernel_rfl)) (fun _ _ _ h => h) (Or.inl ⟨by rfl, ?_⟩) hHeld ?_ ?_
                rotate_left
                · rintro w' ⟨s0, s1, s2, s3, s4, s5, s6, s7, s8, s9, s10, s11, s12, s13, s14, s15⟩
                  go_simp
                  with_reducible rfl
                rotate_left
                · simp only [Act.put, List.setIfInBounds_toArray, List.set_cons_zero, List.set_cons_succ, i64_w, i32_w]
                  rfl
                refine take_ (i := 7) (N := some 24) (v := ?_) (a' := ?_) #[true, true, true, true, true, true, true, true, false, false] rfl rfl (take_ofW HT_.out HW_.out (by kernel_rfl)) (fun _ _ _ h => h) (Or.inl ⟨by rfl, ?_⟩) hHeld ?_ ?_
                rotate_left
                · rintro w' ⟨s0, s1, s2, s3, s4, s5, s6, s7, s8, s9, s10, s11, s12, s13, s14, s15⟩
                  go_simp
                  with_reducible rfl
                rotate_left
                · simp only [Act.put, List.setIfInBounds_toArray, List.set_cons_zero, List.set_cons_succ, i64_w, i32_w]
                  rfl
                refine one_ (i := 8) (N := some 25) #[true, true, true, true, true, true, true, true, true, false] rfl rfl (one_of HT_.out (by kernel_rfl)) (by decide) (fun K hK => ?_)
                refine goes_ Try.func53 (by kernel_rfl) rfl #[.agg #[.int .u64 ((rd_T58 l0 x5_1).f0), .int .u64 ((rd_T58 l0 x5_1).f1), .int .u64 ((rd_T58 l0 x5_1).f2), .int .u64 ((rd_T58 l0 x5_1).f3), .int .u64 ((rd_T58 l0 x5_1).f4), .bool ((rd_T58 l0 x5_1).f5), .slice A125_6 ((rd_T58 l0 x5_1).f6).length c125_6, .slice A125_7 ((rd_T58 l0 x5_1).f7).length c125_7], .agg #[.int .u64 ((rd_T58 l1 x5_1).f0), .int .u64 ((rd_T58 l1 x5_1).f1), .int .u64 ((rd_T58 l1 x5_1).f2), .int .u64 ((rd_T58 l1 x5_1).f3), .int .u64 ((rd_T58 l1 x5_1).f4), .bool ((rd_T58 l1 x5_1).f5), .slice A126_6 ((rd_T58 l1 x5_1).f6).length c126_6, .slice A126_7 ((rd_T58 l1 x5_1).f7).length c126_7]] (by rfl) rfl rfl (by (try simp only [List.map_toArray, List.map_cons, List.map_nil]); first | done | rfl | (simp only [List.length_drop, List.length_take]; rfl)) ?_
                with_reducible refine (skiffref10_SameFrame.calls k1 ((rd_T58 l0 x5_1).f0) ((rd_T58 l0 x5_1).f1) ((rd_T58 l0 x5_1).f2) ((rd_T58 l0 x5_1).f3) ((rd_T58 l0 x5_1).f4) ((rd_T58 l0 x5_1).f5) _ _ ((rd_T58 l0 x5_1).f6) _ _ ((rd_T58 l0 x5_1).f7) ((rd_T58 l1 x5_1).f0) ((rd_T58 l1 x5_1).f1) ((rd_T58 l1 x5_1).f2) ((rd_T58 l1 x5_1).f3) ((rd_T58 l1 x5_1).f4) ((rd_T58 l1 x5_1).f5) _ _ ((rd_T58 l1 x5_1).f6) _ _ ((rd_T58 l1 x5_1).f7) false _ ?side1 ?side2 ?side3 ?side4 ?side5 ?side6 ?side7 ?side8 A7.out).mono ?_
                (case side1 => repeat (first | exact (Kd.C_below HR125_6.out HB.out) | (with_reducible refine Kd.C_alloc ?_ _) | (with_reducible refine Kd.C_drewN ?_ _) | (with_reducible refine Kd.C_drew ?_)))
                (case side2 => exact HC125_6.out)
                (case side3 => repeat (first | exact (Kd.C_below HR125_7.out HB.out) | (with_reducible refine Kd.C_alloc ?_ _) | (with_reducible refine Kd.C_drewN ?_ _) | (with_reducible refine Kd.C_drew ?_)))
                (case side4 => exact HC125_7.out)
                (case side5 => repeat (first | exact (Kd.C_below HR126_6.out HB.out) | (with_reducible refine Kd.C_alloc ?_ _) | (with_reducible refine Kd.C_drewN ?_ _) | (with_reducible refine Kd.C_drew ?_)))
                (case side6 => exact HC126_6.out)
                (case side7 => repeat (first | exact (Kd.C_below HR126_7.out HB.out) | (with_reducible refine Kd.C_alloc ?_ _) | (with_reducible refine Kd.C_drewN ?_ _) | (with_reducible refine Kd.C_drew ?_)))
                (case side8 => exact HC126_7.out)
                rintro e w12 ⟨rfl, hb⟩
                refine ⟨_, rfl, ?_⟩
                have n0_ := Aside0.mk (below_step (by repeat (first | (with_reducible first | exact HB.out | apply below_alloc | apply pw_below_drewN | apply below_drew1) | exact HB.out)) hb)
                clear HB
                have HB := n0_
                clear n0_
                (try clear hb)
                (try clear hb2)
                (try clear hk)
                (try clear hi)
                refine hK.out _ _ ⟨((HB.out.cell (World.block_lt_of_cell? w _ hw125_0)).trans hw125_0), ((HB.out.cell (World.block_lt_of_cell? w _ hw125_1)).trans hw125_1), ((HB.out.cell (World.block_lt_of_cell? w _ hw125_2)).trans hw125_2), ((HB.out.cell (World.block_lt_of_cell? w _ hw125_3)).trans hw125_3), ((HB.out.cell (World.block_lt_of_cell? w _ hw125_4)).trans hw125_4), ((HB.out.cell (World.block_lt_of_cell? w _ hw125_5)).trans hw125_5), ((HB.out.cell (World.block_lt_of_cell? w _ hw125_6)).trans hw125_6), ((HB.out.cell (World.block_lt_of_cell? w _ hw125_7)).trans hw125_7), ((HB.out.cell (World.block_lt_of_cell? w _ hw126_0)).trans hw126_0), ((HB.out.cell (World.block_lt_of_cell? w _ hw126_1)).trans hw126_1), ((HB.out.cell (World.block_lt_of_cell? w _ hw126_2)).trans hw126_2), ((HB.out.cell (World.block_lt_of_cell? w _ hw126_3)).trans hw126_3), ((HB.out.cell (World.block_lt_of_cell? w _ hw126_4)).trans hw126_4), ((HB.out.cell (World.block_lt_of_cell? w _ hw126_5)).trans hw126_5), ((HB.out.cell (World.block_lt_of_cell? w _ hw126_6)).trans hw126_6), ((HB.out.cell (World.block_lt_of_cell? w _ hw126_7)).trans hw126_7)⟩ (fun hHeld => ?_)
                clear hK K
                refine norm_ (a' := ?_) ?_ ?_
                rotate_left
                · show Act.put _ (some 25) _ = _
                  simp only [Act.put, List.setIfInBounds_toArray, List.set_cons_zero, List.set_cons_succ, i64_w, i32_w]
                  rfl
                refine pure_ (i := 9) (N := some 26) (v := ?_) (a' := ?_) #[true, true, true, true, true, true, true, true, true, true] rfl rfl (any_of HT_.out (by kernel_rfl)) (fun _ _ _ h => h) (Or.inl ⟨by rfl, ?_⟩) ?_ ?_
                rotate_left
                · intro w'
                  go_simp
                  with_reducible rfl
                rotate_left
                · simp only [Act.put, List.setIfInBounds_toArray, List.set_cons_zero, List.set_cons_succ, i64_w, i32_w]
                  rfl
                refine done_ (done_of HT_.out (by kernel_rfl)) ?_
                try go_wp2
                go_ret
                exact ⟨by first | rfl | (simp [errW_none, errW_some] <;> rfl) | (simp [*, errW_none, errW_some] <;> rfl), by repeat (first | (with_reducible first | exact HB.out | apply below_alloc | apply pw_below_drewN | apply below_drew1) | exact HB.out)⟩
            · rw [if_neg c6] at H
              exact absurd H (by simp)
          · rw [if_neg c5] at H
            exact absurd H (by simp)
        · rw [if_neg c4] at H
          have c4b0 : decide (x5_1 < (l0.length : Int)) = false := decide_eq_false c4
          clear c4
          obtain rfl := Option.some.inj H
          go_wp2
          go_ret
          exact ⟨by first | rfl | (simp [errW_none, errW_some] <;> rfl) | (simp [*, errW_none, errW_some] <;> rfl), by repeat (first | (with_reducible first | exact HB.out | apply below_alloc | apply pw_below_drewN | apply below_drew1) | exact HB.out)⟩
  · rw [if_neg c3] at H
    have c3b0 : ((l0.length : Int) == (l1.length : Int)) = false := beq_eq_false_iff_ne.mpr c3
    have c3b1 : ((l0.length : Int) != (l1.length : Int)) = true := bne_iff_ne.mpr c3
    have c3b2 : (l0.length == l1.length) = false := by first | simpa using c3 | (simp at c3 ⊢; omega)
    obtain rfl := Option.some.inj H
    go_enter Try.func45, Try.ntmps45
    go_wp2
    go_ret
    exact ⟨by first | rfl | (simp [errW_none, errW_some] <;> rfl) | (simp [*, errW_none, errW_some] <;> rfl), by repeat (first | (with_reducible first | exact HB.out | apply below_alloc | apply pw_below_drewN | apply below_drew1) | exact HB.out)⟩

-- NOT PRINTED: function 14 (skifflaw11_FrameBack)

end Go.Proofs.Ytmccghadgihbpaa.PFrameBack
