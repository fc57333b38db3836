/- The walk of frame.one: the next frame. -/
import Derived.Test.YtmccghadgihbpaaParseW
import Derived.Deep.CutBlock
namespace Go.Proofs.Ytmccghadgihbpaa.ParseOne
open Go Go.RowKit Go.Proofs.Ytmccghadgihbpaa.PFrameBack Go.Proofs.YtmccghadgihbpaaW.PrintWords Go.Proofs.YtmccghadgihbpaaW.PrintLast Go.Proofs.YtmccghadgihbpaaW.PrintMore Go.Proofs.Ytmccghadgihbpaa.Keep Go.Proofs.Ytmccghadgihbpaa.Mem Go.Proofs.Ytmccghadgihbpaa.Reader Go.Proofs.Ytmccghadgihbpaa.Take Go.Proofs.Ytmccghadgihbpaa.ParseS Go.Proofs.Ytmccghadgihbpaa.ParseW
set_option linter.unusedVariables false
set_option linter.unusedSimpArgs false

theorem dataR_len (c : Int) (xs : List Int) : (dataR c xs).1.length ≤ xs.length ∧ (dataR c xs).2.2.length ≤ xs.length := by
  have h1 := rNum_len c xs
  unfold dataR
  generalize (if (rNum c xs).1 > 2048 then rFail 8 (rNum c xs).2.1 else (rNum c xs).2.1) = cc
  have h2 := rBytes_len cc (rNum c xs).2.2 (rNum c xs).1
  have h3 : (rBytes cc (rNum c xs).2.2 (rNum c xs).1).1.length ≤ (rNum c xs).2.2.length := by
    unfold rBytes
    split
    · exact Nat.zero_le _
    · split
      · exact Nat.zero_le _
      · exact List.length_take_le' _ _
  omega

theorem acksL_len : ∀ (m : Nat) (lo hi : Int) (xs : List Int) (acc : List S84), (acksL m lo hi xs acc).2.2.length ≤ xs.length
  | 0, lo, hi, xs, acc => by unfold acksL; split <;> exact Nat.le_refl _
  | m + 1, lo, hi, xs, acc => by
    have h1 := rNum_len 0 xs
    have h2 := rNum_len (rNum 0 xs).2.1 (rNum 0 xs).2.2
    unfold acksL
    split
    · exact Nat.le_refl _
    · split
      · show (rNum (rNum 0 xs).2.1 (rNum 0 xs).2.2).2.2.length ≤ _; omega
      · split
        · show (rNum (rNum 0 xs).2.1 (rNum 0 xs).2.2).2.2.length ≤ _; omega
        · exact Nat.le_trans (acksL_len m _ _ _ _) (by omega)
theorem ifq {N : Nat} {cc n : Int} {x : List Int} {A : List S84 × Int × List Int} (h1 : x.length ≤ N) (h2 : A.2.2.length ≤ N) : (if cc ≠ 0 then (([] : List S84), n, cc, x) else (A.1, n, A.2)).2.2.2.length ≤ N := by
  split
  · exact h1
  · exact h2
theorem acksR_len (c : Int) (xs : List Int) : (acksR c xs).2.2.2.length ≤ xs.length := by
  have h1 := rNum_len c xs
  have h2 := rNum_len (rNum c xs).2.1 (rNum c xs).2.2
  have h3 := rNum_len (rNum (rNum c xs).2.1 (rNum c xs).2.2).2.1 (rNum (rNum c xs).2.1 (rNum c xs).2.2).2.2
  have h4 := rNum_len (rNum (rNum (rNum c xs).2.1 (rNum c xs).2.2).2.1 (rNum (rNum c xs).2.1 (rNum c xs).2.2).2.2).2.1 (rNum (rNum (rNum c xs).2.1 (rNum c xs).2.2).2.1 (rNum (rNum c xs).2.1 (rNum c xs).2.2).2.2).2.2
  unfold acksR
  exact ifq (by omega) (Nat.le_trans (acksL_len _ _ _ _ _) (by omega))

/-- The frame is handed out: its cells are laid into the result's. -/
theorem handed {w0 w1 w : World} {p d fb rb : Nat} {c : Int} {xs : List Int} {x : S58} {v6 v7 : Value} (s : St w1 w p d fb c xs x v6 v7) (k0 : Kp p w0 w1) (hrb : rb = w0.heap.size) (hb : w1.heap[rb]? = some (.cells #[.int .u64 0, .int .u64 0, .int .u64 0, .int .u64 0, .int .u64 0, .bool false, .slice none 0 0, .slice none 0 0] 58 (0, 0))) (hp : p < w0.heap.size) (hd : d < w0.heap.size) :
    ∃ W, W = ((((((((w.setCell ⟨rb, 0, none⟩ (.int .u64 x.f0)).setCell ⟨rb, 1, none⟩ (.int .u64 x.f1)).setCell ⟨rb, 2, none⟩ (.int .u64 x.f2)).setCell ⟨rb, 3, none⟩ (.int .u64 x.f3)).setCell ⟨rb, 4, none⟩ (.int .u64 x.f4)).setCell ⟨rb, 5, none⟩ (.bool x.f5)).setCell ⟨rb, 6, none⟩ v6).setCell ⟨rb, 7, none⟩ v7) ∧
      W.heap[rb]? = some (.cells (boxOf x v6 v7) 58 (0, 0)) ∧ RB W w0.heap.size v6 x.f6 ∧ k84.R 84 W w0.heap.size (fun _ => True) v7 x.f7 ∧ Rdr W p d c xs ∧ Kp p w0 W := by
  have hlt := blk_lt hb
  have hb1 := s.kp.blk hb (by omega)
  have h1 := s.fb0
  have b8 := blk_set (blk_set (blk_set (blk_set (blk_set (blk_set (blk_set (blk_set hb1 0 (.int .u64 x.f0)) 1 (.int .u64 x.f1)) 2 (.int .u64 x.f2)) 3 (.int .u64 x.f3)) 4 (.int .u64 x.f4)) 5 (.bool x.f5)) 6 v6) 7 v7
  have g := (((((((((Kp.refl rb w).set 0 (.int .u64 x.f0)).set 1 (.int .u64 x.f1)).set 2 (.int .u64 x.f2)).set 3 (.int .u64 x.f3)).set 4 (.int .u64 x.f4)).set 5 (.bool x.f5)).set 6 v6).set 7 v7)
  obtain ⟨W, hW⟩ : ∃ W, W = ((((((((w.setCell ⟨rb, 0, none⟩ (.int .u64 x.f0)).setCell ⟨rb, 1, none⟩ (.int .u64 x.f1)).setCell ⟨rb, 2, none⟩ (.int .u64 x.f2)).setCell ⟨rb, 3, none⟩ (.int .u64 x.f3)).setCell ⟨rb, 4, none⟩ (.int .u64 x.f4)).setCell ⟨rb, 5, none⟩ (.bool x.f5)).setCell ⟨rb, 6, none⟩ v6).setCell ⟨rb, 7, none⟩ v7) := ⟨_, rfl⟩
  rw [← hW] at b8 g
  refine ⟨W, hW, ?_, Kd.R_lower (g.R s.r6 (by omega)) (by omega), Kd.R_lower (g.R s.r7 (by omega)) (by omega), s.rdr.keep g (by omega) (by omega), ⟨(g.os.trans (s.kp.os.trans k0.os)), (g.tape.trans (s.kp.tape.trans k0.tape)), (g.output.trans (s.kp.output.trans k0.output)), ?_, ?_⟩⟩
  · rw [b8]
    simp [boxOf]
  · exact Nat.le_trans k0.size (Nat.le_trans s.kp.size g.size)
  · intro i hi hip
    rw [g.block i (by have := k0.size; have := s.kp.size; omega) (by omega), s.kp.block i (by have := k0.size; omega) hip]
    exact k0.block i hi hip

/-- An ACK's frame is laid onto the empty one. -/
theorem over84 {w0 w : World} {p d fb : Nat} {c n : Int} {xs : List Int} {l : List S84} {u7 : Value} (s : St w0 w p d fb c xs z58 (.slice none 0 0) (.slice none 0 0)) (h7 : k84.R 84 w (fb + 1) (fun _ => True) u7 l) :
    St w0 ((((((((w.setCell ⟨fb, 0, none⟩ (.int .u64 0)).setCell ⟨fb, 1, none⟩ (.int .u64 0)).setCell ⟨fb, 2, none⟩ (.int .u64 0)).setCell ⟨fb, 3, none⟩ (.int .u64 n)).setCell ⟨fb, 4, none⟩ (.int .u64 0)).setCell ⟨fb, 5, none⟩ (.bool false)).setCell ⟨fb, 6, none⟩ (.slice none 0 0)).setCell ⟨fb, 7, none⟩ u7) p d fb c xs (fr 0 0 0 n 0 false [] l) (.slice none 0 0) u7 := by
  have hR : ∀ {w : World} (i : Nat) (u : Value), k84.R 84 w (fb + 1) (fun _ => True) u7 l → k84.R 84 (w.setCell ⟨fb, i, none⟩ u) (fb + 1) (fun _ => True) u7 l := fun i u h => ((Kp.refl fb _).set i u).R h (by omega)
  have s0 := s.put 0 (u := .int .u64 0) (y := z58) rfl s.r6 s.r7
  have s1 := s0.put 1 (u := .int .u64 0) (y := z58) rfl s0.r6 s0.r7
  have s2 := s1.put 2 (u := .int .u64 0) (y := z58) rfl s1.r6 s1.r7
  have s3 := s2.put 3 (u := .int .u64 n) (y := fr 0 0 0 n 0 false [] []) rfl s2.r6 s2.r7
  have s4 := s3.put 4 (u := .int .u64 0) (y := fr 0 0 0 n 0 false [] []) rfl s3.r6 s3.r7
  have s5 := s4.put 5 (u := .bool false) (y := fr 0 0 0 n 0 false [] []) rfl s4.r6 s4.r7
  have s6 := s5.put 6 (u := .slice none 0 0) (y := fr 0 0 0 n 0 false [] []) rfl s5.r6 s5.r7
  exact s6.put 7 (u := u7) (y := fr 0 0 0 n 0 false [] l) (u7 := u7) rfl s6.r6 (hR 6 _ (hR 5 _ (hR 4 _ (hR 3 _ (hR 2 _ (hR 1 _ (hR 0 _ h7)))))))

set_option maxHeartbeats 8000000 in
set_option maxRecDepth 100000 in
theorem one_calls {w : World} {p d : Nat} {c : Int} {xs : List Int} (r : Rdr w p d c xs) (hl : xs.length ≤ 10000000) (hd : d < w.heap.size) :
    Calls Try.prog 52 #[.pointer (some ⟨p, 0, none⟩)] w fun e w' => ∃ v6 v7, e = .returned (.agg (boxOf (oneR c xs).1 v6 v7)) ∧ RB w' w.heap.size v6 (oneR c xs).1.f6 ∧ k84.R 84 w' w.heap.size (fun _ => True) v7 (oneR c xs).1.f7 ∧ Rdr w' p d (oneR c xs).2.1 (oneR c xs).2.2 ∧ Kp p w w' := by
  have hp := r.1
  have B1 := (Below.refl w.heap.size w).alloc (Nat.le_refl _) (.cells #[.int .u64 0, .int .u64 0, .int .u64 0, .int .u64 0, .int .u64 0, .bool false, .slice none 0 0, .slice none 0 0] 58)
  have hk1 := heap_alloc_new w (.cells #[.int .u64 0, .int .u64 0, .int .u64 0, .int .u64 0, .int .u64 0, .bool false, .slice none 0 0, .slice none 0 0] 58)
  have hz1 : w.heap.size < (w.alloc (.cells #[.int .u64 0, .int .u64 0, .int .u64 0, .int .u64 0, .int .u64 0, .bool false, .slice none 0 0, .slice none 0 0] 58)).heap.size := by simp
  have r1 := r.below B1
  obtain ⟨w1, hw1⟩ : ∃ w1 : World, w1 = w.alloc (.cells #[.int .u64 0, .int .u64 0, .int .u64 0, .int .u64 0, .int .u64 0, .bool false, .slice none 0 0, .slice none 0 0] 58) := ⟨_, rfl⟩
  rw [← hw1] at B1 hk1 r1 hz1
  have HW1 := Lib.hid hw1
  have hx := r.2.1
  obtain ⟨t, ht⟩ : ∃ t, oneR c xs = t := ⟨_, rfl⟩
  rw [ht]
  have N := num_calls r1 (by omega)
  have bk := rNum_bd (c := c) hx
  have lk := rNum_len c xs
  unfold oneR at ht
  obtain ⟨a, hA⟩ : ∃ a, rNum c xs = a := ⟨_, rfl⟩
  rw [hA] at N bk lk ht
  obtain ⟨k, c1, x1⟩ := a
  simp only at N bk lk ht
  obtain ⟨bk0, bk1⟩ := bk
  have HT := Lib.hid ht
  have HN := Lib.hid N
  have HK1 := Lib.hid hk1
  have HB1 := Lib.hid B1
  clear ht N hA r r1 hx hw1 hk1 B1
  go_enter Try.func52, Try.ntmps52
  go_upto_region 1 with fail
  rw [← HW1.out]
  go_wp2_with fail
  refine HN.out.mono ?_
  rintro e w2 ⟨rfl, D2, K2⟩
  have S1 := St.new D2 K2 (by omega) (by omega)
  have hfb := K2.size
  go_upto_block 0 with fail
  obtain ⟨fb, hfbe⟩ : ∃ fb, fb = w2.heap.size := ⟨_, rfl⟩
  rw [← hfbe] at S1 hfb ⊢
  generalize (w2.alloc (.cells #[.int .u64 0, .int .u64 0, .int .u64 0, .int .u64 0, .int .u64 0, .bool false, .slice none 0 0, .slice none 0 0] 58)) = w3 at *
  have HS1 := Lib.hid S1
  clear D2 K2 HN S1 hfbe
  go_cut [3] from 5 (fun v3 wc => ∃ (kf : Int) (x : S58) (c' : Int) (xs' : List Int) (v6 v7 : Value), v3 = .int .u64 kf ∧ Hid (St w1 wc p d fb c' xs' x v6 v7) ∧ Hid (bodyR k c1 x1 = (⟨kf, x.f1, x.f2, x.f3, x.f4, x.f5, x.f6, x.f7⟩, c', xs')) ∧ (0 ≤ x.f2 ∧ x.f2 < 4611686018427387904) ∧ xs'.length ≤ 10000000 ∧ x.f6.length ≤ 10000000)
  case first =>
    by_cases h0 : k = 0
    · subst h0
      go_wp2_with fail
      go_meet
      case rel => exact ⟨0, (fr 0 0 0 0 0 false [] []), c1, x1, (.slice none 0 0), (.slice none 0 0), rfl, HS1, Lib.hid (by show bodyR 0 c1 x1 = _; unfold bodyR; simp [fr]; done), ⟨by simp [fr], by simp [fr]⟩, by omega, by simp only [fr, List.length_nil]; omega⟩
    by_cases h1 : k = 1
    · subst h1
      go_wp2_with fail
      go_meet
      case rel => exact ⟨1, (fr 0 0 0 0 0 false [] []), c1, x1, (.slice none 0 0), (.slice none 0 0), rfl, HS1, Lib.hid (by show bodyR 1 c1 x1 = _; unfold bodyR; simp [fr]; done), ⟨by simp [fr], by simp [fr]⟩, by omega, by simp only [fr, List.length_nil]; omega⟩
    by_cases h30 : k = 30
    · subst h30
      go_wp2_with fail
      go_meet
      case rel => exact ⟨30, (fr 0 0 0 0 0 false [] []), c1, x1, (.slice none 0 0), (.slice none 0 0), rfl, HS1, Lib.hid (by show bodyR 30 c1 x1 = _; unfold bodyR; simp [fr]; done), ⟨by simp [fr], by simp [fr]⟩, by omega, by simp only [fr, List.length_nil]; omega⟩
    by_cases h4 : k = 4
    · subst h4
      obtain ⟨a, hA⟩ : ∃ a, rNum c1 x1 = a := ⟨_, rfl⟩
      obtain ⟨n2, c2, x2⟩ := a
      have b2 := rNum_bd (c := c1) HS1.out.rdr.2.1
      have l2 := rNum_len c1 x1
      rw [hA] at b2 l2
      simp only at b2 l2
      obtain ⟨b2l, b2h⟩ := b2
      have N := num_st HS1.out (by omega)
      rw [hA] at N
      have HA2 := Lib.hid hA
      have HN := Lib.hid N
      clear N hA
      go_wp2_with fail
      refine HN.out.mono ?_
      rintro e w4 ⟨rfl, S⟩
      obtain ⟨k0, k1, k2, k3, k4, k5, k6, k7⟩ := cells8 S.blk
      have fz := blk_frozen S.blk 1
      have SB := S.put 1 (u := .int .u64 n2) (y := (fr 0 n2 0 0 0 false [] [])) (u6 := (.slice none 0 0)) (u7 := (.slice none 0 0)) rfl S.r6 S.r7
      have HS2 := Lib.hid SB
      clear S SB HN
      obtain ⟨a, hA⟩ : ∃ a, rNum c2 x2 = a := ⟨_, rfl⟩
      obtain ⟨n3, c3, x3⟩ := a
      have b3 := rNum_bd (c := c2) HS2.out.rdr.2.1
      have l3 := rNum_len c2 x2
      rw [hA] at b3 l3
      simp only at b3 l3
      obtain ⟨b3l, b3h⟩ := b3
      have N := num_st HS2.out (by omega)
      rw [hA] at N
      have HA3 := Lib.hid hA
      have HN := Lib.hid N
      clear N hA
      go_wp2_with fail
      clear k0 k1 k2 k3 k4 k5 k6 k7 fz
      refine HN.out.mono ?_
      rintro e w5 ⟨rfl, S⟩
      obtain ⟨k0, k1, k2, k3, k4, k5, k6, k7⟩ := cells8 S.blk
      have fz := blk_frozen S.blk 4
      have SB := S.put 4 (u := .int .u64 n3) (y := (fr 0 n2 0 0 n3 false [] [])) (u6 := (.slice none 0 0)) (u7 := (.slice none 0 0)) rfl S.r6 S.r7
      have HS3 := Lib.hid SB
      clear S SB HN
      obtain ⟨a, hA⟩ : ∃ a, rNum c3 x3 = a := ⟨_, rfl⟩
      obtain ⟨n4, c4, x4⟩ := a
      have b4 := rNum_bd (c := c3) HS3.out.rdr.2.1
      have l4 := rNum_len c3 x3
      rw [hA] at b4 l4
      simp only at b4 l4
      obtain ⟨b4l, b4h⟩ := b4
      have N := num_st HS3.out (by omega)
      rw [hA] at N
      have HA4 := Lib.hid hA
      have HN := Lib.hid N
      clear N hA
      go_wp2_with fail
      clear k0 k1 k2 k3 k4 k5 k6 k7 fz
      refine HN.out.mono ?_
      rintro e w6 ⟨rfl, S⟩
      obtain ⟨k0, k1, k2, k3, k4, k5, k6, k7⟩ := cells8 S.blk
      have fz := blk_frozen S.blk 3
      have SB := S.put 3 (u := .int .u64 n4) (y := (fr 0 n2 0 n4 n3 false [] [])) (u6 := (.slice none 0 0)) (u7 := (.slice none 0 0)) rfl S.r6 S.r7
      have HS4 := Lib.hid SB
      clear S SB HN
      go_wp2_with fail
      clear k0 k1 k2 k3 k4 k5 k6 k7 fz
      go_meet
      case rel => exact ⟨4, (fr 0 n2 0 n4 n3 false [] []), c4, x4, (.slice none 0 0), (.slice none 0 0), rfl, HS4, Lib.hid (by show bodyR 4 c1 x1 = _; unfold bodyR; simp [HA2.out, HA3.out, HA4.out, fr]; done), ⟨by simp [fr], by simp [fr]⟩, by omega, by simp only [fr, List.length_nil]; omega⟩
    by_cases h5 : k = 5
    · subst h5
      obtain ⟨a, hA⟩ : ∃ a, rNum c1 x1 = a := ⟨_, rfl⟩
      obtain ⟨n2, c2, x2⟩ := a
      have b2 := rNum_bd (c := c1) HS1.out.rdr.2.1
      have l2 := rNum_len c1 x1
      rw [hA] at b2 l2
      simp only at b2 l2
      obtain ⟨b2l, b2h⟩ := b2
      have N := num_st HS1.out (by omega)
      rw [hA] at N
      have HA2 := Lib.hid hA
      have HN := Lib.hid N
      clear N hA
      go_wp2_with fail
      refine HN.out.mono ?_
      rintro e w4 ⟨rfl, S⟩
      obtain ⟨k0, k1, k2, k3, k4, k5, k6, k7⟩ := cells8 S.blk
      have fz := blk_frozen S.blk 1
      have SB := S.put 1 (u := .int .u64 n2) (y := (fr 0 n2 0 0 0 false [] [])) (u6 := (.slice none 0 0)) (u7 := (.slice none 0 0)) rfl S.r6 S.r7
      have HS2 := Lib.hid SB
      clear S SB HN
      obtain ⟨a, hA⟩ : ∃ a, rNum c2 x2 = a := ⟨_, rfl⟩
      obtain ⟨n3, c3, x3⟩ := a
      have b3 := rNum_bd (c := c2) HS2.out.rdr.2.1
      have l3 := rNum_len c2 x2
      rw [hA] at b3 l3
      simp only at b3 l3
      obtain ⟨b3l, b3h⟩ := b3
      have N := num_st HS2.out (by omega)
      rw [hA] at N
      have HA3 := Lib.hid hA
      have HN := Lib.hid N
      clear N hA
      go_wp2_with fail
      clear k0 k1 k2 k3 k4 k5 k6 k7 fz
      refine HN.out.mono ?_
      rintro e w5 ⟨rfl, S⟩
      obtain ⟨k0, k1, k2, k3, k4, k5, k6, k7⟩ := cells8 S.blk
      have fz := blk_frozen S.blk 4
      have SB := S.put 4 (u := .int .u64 n3) (y := (fr 0 n2 0 0 n3 false [] [])) (u6 := (.slice none 0 0)) (u7 := (.slice none 0 0)) rfl S.r6 S.r7
      have HS3 := Lib.hid SB
      clear S SB HN
      go_wp2_with fail
      clear k0 k1 k2 k3 k4 k5 k6 k7 fz
      go_meet
      case rel => exact ⟨5, (fr 0 n2 0 0 n3 false [] []), c3, x3, (.slice none 0 0), (.slice none 0 0), rfl, HS3, Lib.hid (by show bodyR 5 c1 x1 = _; unfold bodyR; simp [HA2.out, HA3.out, fr]; done), ⟨by simp [fr], by simp [fr]⟩, by omega, by simp only [fr, List.length_nil]; omega⟩
    by_cases h16 : k = 16
    · subst h16
      obtain ⟨a, hA⟩ : ∃ a, rNum c1 x1 = a := ⟨_, rfl⟩
      obtain ⟨n2, c2, x2⟩ := a
      have b2 := rNum_bd (c := c1) HS1.out.rdr.2.1
      have l2 := rNum_len c1 x1
      rw [hA] at b2 l2
      simp only at b2 l2
      obtain ⟨b2l, b2h⟩ := b2
      have N := num_st HS1.out (by omega)
      rw [hA] at N
      have HA2 := Lib.hid hA
      have HN := Lib.hid N
      clear N hA
      go_wp2_with fail
      refine HN.out.mono ?_
      rintro e w4 ⟨rfl, S⟩
      obtain ⟨k0, k1, k2, k3, k4, k5, k6, k7⟩ := cells8 S.blk
      have fz := blk_frozen S.blk 3
      have SB := S.put 3 (u := .int .u64 n2) (y := (fr 0 0 0 n2 0 false [] [])) (u6 := (.slice none 0 0)) (u7 := (.slice none 0 0)) rfl S.r6 S.r7
      have HS2 := Lib.hid SB
      clear S SB HN
      go_wp2_with fail
      clear k0 k1 k2 k3 k4 k5 k6 k7 fz
      go_meet
      case rel => exact ⟨16, (fr 0 0 0 n2 0 false [] []), c2, x2, (.slice none 0 0), (.slice none 0 0), rfl, HS2, Lib.hid (by show bodyR 16 c1 x1 = _; unfold bodyR; simp [HA2.out, fr]; done), ⟨by simp [fr], by simp [fr]⟩, by omega, by simp only [fr, List.length_nil]; omega⟩
    by_cases h18 : k = 18
    · subst h18
      obtain ⟨a, hA⟩ : ∃ a, rNum c1 x1 = a := ⟨_, rfl⟩
      obtain ⟨n2, c2, x2⟩ := a
      have b2 := rNum_bd (c := c1) HS1.out.rdr.2.1
      have l2 := rNum_len c1 x1
      rw [hA] at b2 l2
      simp only at b2 l2
      obtain ⟨b2l, b2h⟩ := b2
      have N := num_st HS1.out (by omega)
      rw [hA] at N
      have HA2 := Lib.hid hA
      have HN := Lib.hid N
      clear N hA
      go_wp2_with fail
      refine HN.out.mono ?_
      rintro e w4 ⟨rfl, S⟩
      obtain ⟨k0, k1, k2, k3, k4, k5, k6, k7⟩ := cells8 S.blk
      have fz := blk_frozen S.blk 3
      have SB := S.put 3 (u := .int .u64 n2) (y := (fr 0 0 0 n2 0 false [] [])) (u6 := (.slice none 0 0)) (u7 := (.slice none 0 0)) rfl S.r6 S.r7
      have HS2 := Lib.hid SB
      clear S SB HN
      go_wp2_with fail
      clear k0 k1 k2 k3 k4 k5 k6 k7 fz
      go_meet
      case rel => exact ⟨18, (fr 0 0 0 n2 0 false [] []), c2, x2, (.slice none 0 0), (.slice none 0 0), rfl, HS2, Lib.hid (by show bodyR 18 c1 x1 = _; unfold bodyR; simp [HA2.out, fr]; done), ⟨by simp [fr], by simp [fr]⟩, by omega, by simp only [fr, List.length_nil]; omega⟩
    by_cases h17 : k = 17
    · subst h17
      obtain ⟨a, hA⟩ : ∃ a, rNum c1 x1 = a := ⟨_, rfl⟩
      obtain ⟨n2, c2, x2⟩ := a
      have b2 := rNum_bd (c := c1) HS1.out.rdr.2.1
      have l2 := rNum_len c1 x1
      rw [hA] at b2 l2
      simp only at b2 l2
      obtain ⟨b2l, b2h⟩ := b2
      have N := num_st HS1.out (by omega)
      rw [hA] at N
      have HA2 := Lib.hid hA
      have HN := Lib.hid N
      clear N hA
      go_wp2_with fail
      refine HN.out.mono ?_
      rintro e w4 ⟨rfl, S⟩
      obtain ⟨k0, k1, k2, k3, k4, k5, k6, k7⟩ := cells8 S.blk
      have fz := blk_frozen S.blk 1
      have SB := S.put 1 (u := .int .u64 n2) (y := (fr 0 n2 0 0 0 false [] [])) (u6 := (.slice none 0 0)) (u7 := (.slice none 0 0)) rfl S.r6 S.r7
      have HS2 := Lib.hid SB
      clear S SB HN
      obtain ⟨a, hA⟩ : ∃ a, rNum c2 x2 = a := ⟨_, rfl⟩
      obtain ⟨n3, c3, x3⟩ := a
      have b3 := rNum_bd (c := c2) HS2.out.rdr.2.1
      have l3 := rNum_len c2 x2
      rw [hA] at b3 l3
      simp only at b3 l3
      obtain ⟨b3l, b3h⟩ := b3
      have N := num_st HS2.out (by omega)
      rw [hA] at N
      have HA3 := Lib.hid hA
      have HN := Lib.hid N
      clear N hA
      go_wp2_with fail
      clear k0 k1 k2 k3 k4 k5 k6 k7 fz
      refine HN.out.mono ?_
      rintro e w5 ⟨rfl, S⟩
      obtain ⟨k0, k1, k2, k3, k4, k5, k6, k7⟩ := cells8 S.blk
      have fz := blk_frozen S.blk 3
      have SB := S.put 3 (u := .int .u64 n3) (y := (fr 0 n2 0 n3 0 false [] [])) (u6 := (.slice none 0 0)) (u7 := (.slice none 0 0)) rfl S.r6 S.r7
      have HS3 := Lib.hid SB
      clear S SB HN
      go_wp2_with fail
      clear k0 k1 k2 k3 k4 k5 k6 k7 fz
      go_meet
      case rel => exact ⟨17, (fr 0 n2 0 n3 0 false [] []), c3, x3, (.slice none 0 0), (.slice none 0 0), rfl, HS3, Lib.hid (by show bodyR 17 c1 x1 = _; unfold bodyR; simp [HA2.out, HA3.out, fr]; done), ⟨by simp [fr], by simp [fr]⟩, by omega, by simp only [fr, List.length_nil]; omega⟩
    by_cases h6 : k = 6
    · subst h6
      obtain ⟨a, hA⟩ : ∃ a, rNum c1 x1 = a := ⟨_, rfl⟩
      obtain ⟨n2, c2, x2⟩ := a
      have b2 := rNum_bd (c := c1) HS1.out.rdr.2.1
      have l2 := rNum_len c1 x1
      rw [hA] at b2 l2
      simp only at b2 l2
      obtain ⟨b2l, b2h⟩ := b2
      have N := num_st HS1.out (by omega)
      rw [hA] at N
      have HA2 := Lib.hid hA
      have HN := Lib.hid N
      clear N hA
      go_wp2_with fail
      refine HN.out.mono ?_
      rintro e w4 ⟨rfl, S⟩
      obtain ⟨k0, k1, k2, k3, k4, k5, k6, k7⟩ := cells8 S.blk
      have fz := blk_frozen S.blk 2
      have SB := S.put 2 (u := .int .u64 n2) (y := (fr 0 0 n2 0 0 false [] [])) (u6 := (.slice none 0 0)) (u7 := (.slice none 0 0)) rfl S.r6 S.r7
      have HS2 := Lib.hid SB
      clear S SB HN
      obtain ⟨a, hA⟩ : ∃ a, dataR c2 x2 = a := ⟨_, rfl⟩
      obtain ⟨d3, c3, x3⟩ := a
      have l3 := dataR_len c2 x2
      rw [hA] at l3
      simp only at l3
      obtain ⟨l3a, l3b⟩ := l3
      have N := data_calls HS2.out.rdr (by omega)
      rw [hA] at N
      have HA3 := Lib.hid hA
      have HN := Lib.hid N
      clear N hA
      go_wp2_with fail
      clear k0 k1 k2 k3 k4 k5 k6 k7 fz
      have hfb := blk_lt HS2.out.blk
      refine HN.out.mono ?_
      rintro e w5 ⟨v6, rfl, R, D, K⟩
      obtain ⟨A6, n6, q6, e6⟩ := R_slice R
      subst e6
      have S := HS2.out.keep K D
      obtain ⟨k0, k1, k2, k3, k4, k5, k6, k7⟩ := cells8 S.blk
      have fz := blk_frozen S.blk 6
      have SB := S.put 6 (u := .slice A6 n6 q6) (y := (fr 0 0 n2 0 0 false d3 [])) (u6 := .slice A6 n6 q6) (u7 := (.slice none 0 0)) rfl (Kd.R_lower R hfb) S.r7
      have HS3 := Lib.hid SB
      clear S SB HN R D K hfb
      go_wp2_with fail
      clear k0 k1 k2 k3 k4 k5 k6 k7 fz
      go_meet
      case rel => exact ⟨6, (fr 0 0 n2 0 0 false d3 []), c3, x3, (.slice A6 n6 q6), (.slice none 0 0), rfl, HS3, Lib.hid (by show bodyR 6 c1 x1 = _; unfold bodyR; simp [HA2.out, HA3.out, fr]; done), ⟨b2l, b2h⟩, by omega, by simp only [fr, List.length_nil]; omega⟩
    by_cases h28 : k = 28
    · subst h28
      obtain ⟨a, hA⟩ : ∃ a, rNum c1 x1 = a := ⟨_, rfl⟩
      obtain ⟨n2, c2, x2⟩ := a
      have b2 := rNum_bd (c := c1) HS1.out.rdr.2.1
      have l2 := rNum_len c1 x1
      rw [hA] at b2 l2
      simp only at b2 l2
      obtain ⟨b2l, b2h⟩ := b2
      have N := num_st HS1.out (by omega)
      rw [hA] at N
      have HA2 := Lib.hid hA
      have HN := Lib.hid N
      clear N hA
      go_wp2_with fail
      refine HN.out.mono ?_
      rintro e w4 ⟨rfl, S⟩
      obtain ⟨k0, k1, k2, k3, k4, k5, k6, k7⟩ := cells8 S.blk
      have fz := blk_frozen S.blk 4
      have SB := S.put 4 (u := .int .u64 n2) (y := (fr 0 0 0 0 n2 false [] [])) (u6 := (.slice none 0 0)) (u7 := (.slice none 0 0)) rfl S.r6 S.r7
      have HS2 := Lib.hid SB
      clear S SB HN
      obtain ⟨a, hA⟩ : ∃ a, dataR c2 x2 = a := ⟨_, rfl⟩
      obtain ⟨d3, c3, x3⟩ := a
      have l3 := dataR_len c2 x2
      rw [hA] at l3
      simp only at l3
      obtain ⟨l3a, l3b⟩ := l3
      have N := data_calls HS2.out.rdr (by omega)
      rw [hA] at N
      have HA3 := Lib.hid hA
      have HN := Lib.hid N
      clear N hA
      go_wp2_with fail
      clear k0 k1 k2 k3 k4 k5 k6 k7 fz
      have hfb := blk_lt HS2.out.blk
      refine HN.out.mono ?_
      rintro e w5 ⟨v6, rfl, R, D, K⟩
      obtain ⟨A6, n6, q6, e6⟩ := R_slice R
      subst e6
      have S := HS2.out.keep K D
      obtain ⟨k0, k1, k2, k3, k4, k5, k6, k7⟩ := cells8 S.blk
      have fz := blk_frozen S.blk 6
      have SB := S.put 6 (u := .slice A6 n6 q6) (y := (fr 0 0 0 0 n2 false d3 [])) (u6 := .slice A6 n6 q6) (u7 := (.slice none 0 0)) rfl (Kd.R_lower R hfb) S.r7
      have HS3 := Lib.hid SB
      clear S SB HN R D K hfb
      go_wp2_with fail
      clear k0 k1 k2 k3 k4 k5 k6 k7 fz
      go_meet
      case rel => exact ⟨28, (fr 0 0 0 0 n2 false d3 []), c3, x3, (.slice A6 n6 q6), (.slice none 0 0), rfl, HS3, Lib.hid (by show bodyR 28 c1 x1 = _; unfold bodyR; simp [HA2.out, HA3.out, fr]; done), ⟨by simp [fr], by simp [fr]⟩, by omega, by simp only [fr, List.length_nil]; omega⟩
    by_cases h10 : k = 10
    · subst h10
      obtain ⟨a, hA⟩ : ∃ a, rNum c1 x1 = a := ⟨_, rfl⟩
      obtain ⟨n2, c2, x2⟩ := a
      have b2 := rNum_bd (c := c1) HS1.out.rdr.2.1
      have l2 := rNum_len c1 x1
      rw [hA] at b2 l2
      simp only at b2 l2
      obtain ⟨b2l, b2h⟩ := b2
      have N := num_st HS1.out (by omega)
      rw [hA] at N
      have HA2 := Lib.hid hA
      have HN := Lib.hid N
      clear N hA
      go_wp2_with fail
      refine HN.out.mono ?_
      rintro e w4 ⟨rfl, S⟩
      obtain ⟨k0, k1, k2, k3, k4, k5, k6, k7⟩ := cells8 S.blk
      have fz := blk_frozen S.blk 1
      have SB := S.put 1 (u := .int .u64 n2) (y := (fr 0 n2 0 0 0 false [] [])) (u6 := (.slice none 0 0)) (u7 := (.slice none 0 0)) rfl S.r6 S.r7
      have HS2 := Lib.hid SB
      clear S SB HN
      go_upto_region 29 with fail
      clear k0 k1 k2 k3 k4 k5 k6 k7 fz
      obtain ⟨k0, k1, k2, k3, k4, k5, k6, k7⟩ := cells8 HS2.out.blk
      have fz := blk_frozen HS2.out.blk 5
      have SB := HS2.out.put 5 (u := .bool false) (y := (fr 0 n2 0 0 0 false [] [])) (u6 := (.slice none 0 0)) (u7 := (.slice none 0 0)) rfl HS2.out.r6 HS2.out.r7
      have HS3 := Lib.hid SB
      clear SB
      obtain ⟨a, hA⟩ : ∃ a, dataR c2 x2 = a := ⟨_, rfl⟩
      obtain ⟨d4, c4, x4⟩ := a
      have l4 := dataR_len c2 x2
      rw [hA] at l4
      simp only at l4
      obtain ⟨l4a, l4b⟩ := l4
      have N := data_calls HS3.out.rdr (by omega)
      rw [hA] at N
      have HA4 := Lib.hid hA
      have HN := Lib.hid N
      clear N hA
      go_wp2_with fail
      clear k0 k1 k2 k3 k4 k5 k6 k7 fz
      have hfb := blk_lt HS3.out.blk
      refine HN.out.mono ?_
      rintro e w6 ⟨v6, rfl, R, D, K⟩
      obtain ⟨A6, n6, q6, e6⟩ := R_slice R
      subst e6
      have S := HS3.out.keep K D
      obtain ⟨k0, k1, k2, k3, k4, k5, k6, k7⟩ := cells8 S.blk
      have fz := blk_frozen S.blk 6
      have SB := S.put 6 (u := .slice A6 n6 q6) (y := (fr 0 n2 0 0 0 false d4 [])) (u6 := .slice A6 n6 q6) (u7 := (.slice none 0 0)) rfl (Kd.R_lower R hfb) S.r7
      have HS4 := Lib.hid SB
      clear S SB HN R D K hfb
      go_wp2_with fail
      clear k0 k1 k2 k3 k4 k5 k6 k7 fz
      go_meet
      case rel => exact ⟨8, (fr 0 n2 0 0 0 false d4 []), c4, x4, (.slice A6 n6 q6), (.slice none 0 0), rfl, HS4, Lib.hid (by show bodyR 10 c1 x1 = _; unfold bodyR; simp [HA2.out, HA4.out, fr]; done), ⟨by simp [fr], by simp [fr]⟩, by omega, by simp only [fr, List.length_nil]; omega⟩
    by_cases h11 : k = 11
    · subst h11
      obtain ⟨a, hA⟩ : ∃ a, rNum c1 x1 = a := ⟨_, rfl⟩
      obtain ⟨n2, c2, x2⟩ := a
      have b2 := rNum_bd (c := c1) HS1.out.rdr.2.1
      have l2 := rNum_len c1 x1
      rw [hA] at b2 l2
      simp only at b2 l2
      obtain ⟨b2l, b2h⟩ := b2
      have N := num_st HS1.out (by omega)
      rw [hA] at N
      have HA2 := Lib.hid hA
      have HN := Lib.hid N
      clear N hA
      go_wp2_with fail
      refine HN.out.mono ?_
      rintro e w4 ⟨rfl, S⟩
      obtain ⟨k0, k1, k2, k3, k4, k5, k6, k7⟩ := cells8 S.blk
      have fz := blk_frozen S.blk 1
      have SB := S.put 1 (u := .int .u64 n2) (y := (fr 0 n2 0 0 0 false [] [])) (u6 := (.slice none 0 0)) (u7 := (.slice none 0 0)) rfl S.r6 S.r7
      have HS2 := Lib.hid SB
      clear S SB HN
      go_upto_region 29 with fail
      clear k0 k1 k2 k3 k4 k5 k6 k7 fz
      obtain ⟨k0, k1, k2, k3, k4, k5, k6, k7⟩ := cells8 HS2.out.blk
      have fz := blk_frozen HS2.out.blk 5
      have SB := HS2.out.put 5 (u := .bool true) (y := (fr 0 n2 0 0 0 true [] [])) (u6 := (.slice none 0 0)) (u7 := (.slice none 0 0)) rfl HS2.out.r6 HS2.out.r7
      have HS3 := Lib.hid SB
      clear SB
      obtain ⟨a, hA⟩ : ∃ a, dataR c2 x2 = a := ⟨_, rfl⟩
      obtain ⟨d4, c4, x4⟩ := a
      have l4 := dataR_len c2 x2
      rw [hA] at l4
      simp only at l4
      obtain ⟨l4a, l4b⟩ := l4
      have N := data_calls HS3.out.rdr (by omega)
      rw [hA] at N
      have HA4 := Lib.hid hA
      have HN := Lib.hid N
      clear N hA
      go_wp2_with fail
      clear k0 k1 k2 k3 k4 k5 k6 k7 fz
      have hfb := blk_lt HS3.out.blk
      refine HN.out.mono ?_
      rintro e w6 ⟨v6, rfl, R, D, K⟩
      obtain ⟨A6, n6, q6, e6⟩ := R_slice R
      subst e6
      have S := HS3.out.keep K D
      obtain ⟨k0, k1, k2, k3, k4, k5, k6, k7⟩ := cells8 S.blk
      have fz := blk_frozen S.blk 6
      have SB := S.put 6 (u := .slice A6 n6 q6) (y := (fr 0 n2 0 0 0 true d4 [])) (u6 := .slice A6 n6 q6) (u7 := (.slice none 0 0)) rfl (Kd.R_lower R hfb) S.r7
      have HS4 := Lib.hid SB
      clear S SB HN R D K hfb
      go_wp2_with fail
      clear k0 k1 k2 k3 k4 k5 k6 k7 fz
      go_meet
      case rel => exact ⟨8, (fr 0 n2 0 0 0 true d4 []), c4, x4, (.slice A6 n6 q6), (.slice none 0 0), rfl, HS4, Lib.hid (by show bodyR 11 c1 x1 = _; unfold bodyR; simp [HA2.out, HA4.out, fr]; done), ⟨by simp [fr], by simp [fr]⟩, by omega, by simp only [fr, List.length_nil]; omega⟩
    by_cases h14 : k = 14
    · subst h14
      obtain ⟨a, hA⟩ : ∃ a, rNum c1 x1 = a := ⟨_, rfl⟩
      obtain ⟨n2, c2, x2⟩ := a
      have b2 := rNum_bd (c := c1) HS1.out.rdr.2.1
      have l2 := rNum_len c1 x1
      rw [hA] at b2 l2
      simp only at b2 l2
      obtain ⟨b2l, b2h⟩ := b2
      have N := num_st HS1.out (by omega)
      rw [hA] at N
      have HA2 := Lib.hid hA
      have HN := Lib.hid N
      clear N hA
      go_wp2_with fail
      refine HN.out.mono ?_
      rintro e w4 ⟨rfl, S⟩
      obtain ⟨k0, k1, k2, k3, k4, k5, k6, k7⟩ := cells8 S.blk
      have fz := blk_frozen S.blk 1
      have SB := S.put 1 (u := .int .u64 n2) (y := (fr 0 n2 0 0 0 false [] [])) (u6 := (.slice none 0 0)) (u7 := (.slice none 0 0)) rfl S.r6 S.r7
      have HS2 := Lib.hid SB
      clear S SB HN
      obtain ⟨a, hA⟩ : ∃ a, rNum c2 x2 = a := ⟨_, rfl⟩
      obtain ⟨n3, c3, x3⟩ := a
      have b3 := rNum_bd (c := c2) HS2.out.rdr.2.1
      have l3 := rNum_len c2 x2
      rw [hA] at b3 l3
      simp only at b3 l3
      obtain ⟨b3l, b3h⟩ := b3
      have N := num_st HS2.out (by omega)
      rw [hA] at N
      have HA3 := Lib.hid hA
      have HN := Lib.hid N
      clear N hA
      go_wp2_with fail
      clear k0 k1 k2 k3 k4 k5 k6 k7 fz
      refine HN.out.mono ?_
      rintro e w5 ⟨rfl, S⟩
      obtain ⟨k0, k1, k2, k3, k4, k5, k6, k7⟩ := cells8 S.blk
      have fz := blk_frozen S.blk 2
      have SB := S.put 2 (u := .int .u64 n3) (y := (fr 0 n2 n3 0 0 false [] [])) (u6 := (.slice none 0 0)) (u7 := (.slice none 0 0)) rfl S.r6 S.r7
      have HS3 := Lib.hid SB
      clear S SB HN
      go_upto_region 27 with fail
      by_cases hz : n3 = 0
      · clear k0 k1 k2 k3 k4 k5 k6 k7 fz
        subst hz
        obtain ⟨k0, k1, k2, k3, k4, k5, k6, k7⟩ := cells8 HS3.out.blk
        dsimp only [fr] at k2
        have fz := True.intro
        go_wp2_with fail
        clear k0 k1 k2 k3 k4 k5 k6 k7 fz
        refine (fail_st HS3.out 5).mono ?_
        rintro e w6 ⟨rfl, S⟩
        have HS4 := Lib.hid S
        clear S
        go_upto_region 29 with fail
        obtain ⟨k0, k1, k2, k3, k4, k5, k6, k7⟩ := cells8 HS4.out.blk
        have fz := blk_frozen HS4.out.blk 5
        have SB := HS4.out.put 5 (u := .bool false) (y := (fr 0 n2 0 0 0 false [] [])) (u6 := (.slice none 0 0)) (u7 := (.slice none 0 0)) rfl HS4.out.r6 HS4.out.r7
        have HS5 := Lib.hid SB
        clear SB
        obtain ⟨a, hA⟩ : ∃ a, dataR (rFail 5 c3) x3 = a := ⟨_, rfl⟩
        obtain ⟨d6, c6, x6⟩ := a
        have l6 := dataR_len (rFail 5 c3) x3
        rw [hA] at l6
        simp only at l6
        obtain ⟨l6a, l6b⟩ := l6
        have N := data_calls HS5.out.rdr (by omega)
        rw [hA] at N
        have HA6 := Lib.hid hA
        have HN := Lib.hid N
        clear N hA
        go_wp2_with fail
        clear k0 k1 k2 k3 k4 k5 k6 k7 fz
        have hfb := blk_lt HS5.out.blk
        refine HN.out.mono ?_
        rintro e w8 ⟨v6, rfl, R, D, K⟩
        obtain ⟨A6, n6, q6, e6⟩ := R_slice R
        subst e6
        have S := HS5.out.keep K D
        obtain ⟨k0, k1, k2, k3, k4, k5, k6, k7⟩ := cells8 S.blk
        have fz := blk_frozen S.blk 6
        have SB := S.put 6 (u := .slice A6 n6 q6) (y := (fr 0 n2 0 0 0 false d6 [])) (u6 := .slice A6 n6 q6) (u7 := (.slice none 0 0)) rfl (Kd.R_lower R hfb) S.r7
        have HS6 := Lib.hid SB
        clear S SB HN R D K hfb
        go_wp2_with fail
        clear k0 k1 k2 k3 k4 k5 k6 k7 fz
        go_meet
        case rel => exact ⟨8, (fr 0 n2 0 0 0 false d6 []), c6, x6, (.slice A6 n6 q6), (.slice none 0 0), rfl, HS6, Lib.hid (by show bodyR 14 c1 x1 = _; unfold bodyR; simp [HA2.out, HA3.out, HA6.out, fr]; done), ⟨by simp [fr], by simp [fr]⟩, by omega, by simp only [fr, List.length_nil]; omega⟩
      · clear k0 k1 k2 k3 k4 k5 k6 k7 fz
        have t0 : (n3 == 0) = false := by simp [hz]
        have HZ := Lib.hid hz
        clear hz
        obtain ⟨k0, k1, k2, k3, k4, k5, k6, k7⟩ := cells8 HS3.out.blk
        dsimp only [fr] at k2
        have fz := True.intro
        go_upto_region 29 with fail
        clear k0 k1 k2 k3 k4 k5 k6 k7 fz
        obtain ⟨k0, k1, k2, k3, k4, k5, k6, k7⟩ := cells8 HS3.out.blk
        have fz := blk_frozen HS3.out.blk 5
        have SB := HS3.out.put 5 (u := .bool false) (y := (fr 0 n2 n3 0 0 false [] [])) (u6 := (.slice none 0 0)) (u7 := (.slice none 0 0)) rfl HS3.out.r6 HS3.out.r7
        have HS4 := Lib.hid SB
        clear SB
        obtain ⟨a, hA⟩ : ∃ a, dataR c3 x3 = a := ⟨_, rfl⟩
        obtain ⟨d5, c5, x5⟩ := a
        have l5 := dataR_len c3 x3
        rw [hA] at l5
        simp only at l5
        obtain ⟨l5a, l5b⟩ := l5
        have N := data_calls HS4.out.rdr (by omega)
        rw [hA] at N
        have HA5 := Lib.hid hA
        have HN := Lib.hid N
        clear N hA
        go_wp2_with fail
        clear k0 k1 k2 k3 k4 k5 k6 k7 fz
        have hfb := blk_lt HS4.out.blk
        refine HN.out.mono ?_
        rintro e w7 ⟨v6, rfl, R, D, K⟩
        obtain ⟨A6, n6, q6, e6⟩ := R_slice R
        subst e6
        have S := HS4.out.keep K D
        obtain ⟨k0, k1, k2, k3, k4, k5, k6, k7⟩ := cells8 S.blk
        have fz := blk_frozen S.blk 6
        have SB := S.put 6 (u := .slice A6 n6 q6) (y := (fr 0 n2 n3 0 0 false d5 [])) (u6 := .slice A6 n6 q6) (u7 := (.slice none 0 0)) rfl (Kd.R_lower R hfb) S.r7
        have HS5 := Lib.hid SB
        clear S SB HN R D K hfb
        go_wp2_with fail
        clear k0 k1 k2 k3 k4 k5 k6 k7 fz
        go_meet
        case rel => exact ⟨8, (fr 0 n2 n3 0 0 false d5 []), c5, x5, (.slice A6 n6 q6), (.slice none 0 0), rfl, HS5, Lib.hid (by show bodyR 14 c1 x1 = _; unfold bodyR; simp [HA2.out, HA3.out, HZ.out, HA5.out, fr]; done), ⟨b3l, b3h⟩, by omega, by simp only [fr, List.length_nil]; omega⟩
    by_cases h15 : k = 15
    · subst h15
      obtain ⟨a, hA⟩ : ∃ a, rNum c1 x1 = a := ⟨_, rfl⟩
      obtain ⟨n2, c2, x2⟩ := a
      have b2 := rNum_bd (c := c1) HS1.out.rdr.2.1
      have l2 := rNum_len c1 x1
      rw [hA] at b2 l2
      simp only at b2 l2
      obtain ⟨b2l, b2h⟩ := b2
      have N := num_st HS1.out (by omega)
      rw [hA] at N
      have HA2 := Lib.hid hA
      have HN := Lib.hid N
      clear N hA
      go_wp2_with fail
      refine HN.out.mono ?_
      rintro e w4 ⟨rfl, S⟩
      obtain ⟨k0, k1, k2, k3, k4, k5, k6, k7⟩ := cells8 S.blk
      have fz := blk_frozen S.blk 1
      have SB := S.put 1 (u := .int .u64 n2) (y := (fr 0 n2 0 0 0 false [] [])) (u6 := (.slice none 0 0)) (u7 := (.slice none 0 0)) rfl S.r6 S.r7
      have HS2 := Lib.hid SB
      clear S SB HN
      obtain ⟨a, hA⟩ : ∃ a, rNum c2 x2 = a := ⟨_, rfl⟩
      obtain ⟨n3, c3, x3⟩ := a
      have b3 := rNum_bd (c := c2) HS2.out.rdr.2.1
      have l3 := rNum_len c2 x2
      rw [hA] at b3 l3
      simp only at b3 l3
      obtain ⟨b3l, b3h⟩ := b3
      have N := num_st HS2.out (by omega)
      rw [hA] at N
      have HA3 := Lib.hid hA
      have HN := Lib.hid N
      clear N hA
      go_wp2_with fail
      clear k0 k1 k2 k3 k4 k5 k6 k7 fz
      refine HN.out.mono ?_
      rintro e w5 ⟨rfl, S⟩
      obtain ⟨k0, k1, k2, k3, k4, k5, k6, k7⟩ := cells8 S.blk
      have fz := blk_frozen S.blk 2
      have SB := S.put 2 (u := .int .u64 n3) (y := (fr 0 n2 n3 0 0 false [] [])) (u6 := (.slice none 0 0)) (u7 := (.slice none 0 0)) rfl S.r6 S.r7
      have HS3 := Lib.hid SB
      clear S SB HN
      go_upto_region 27 with fail
      by_cases hz : n3 = 0
      · clear k0 k1 k2 k3 k4 k5 k6 k7 fz
        subst hz
        obtain ⟨k0, k1, k2, k3, k4, k5, k6, k7⟩ := cells8 HS3.out.blk
        dsimp only [fr] at k2
        have fz := True.intro
        go_wp2_with fail
        clear k0 k1 k2 k3 k4 k5 k6 k7 fz
        refine (fail_st HS3.out 5).mono ?_
        rintro e w6 ⟨rfl, S⟩
        have HS4 := Lib.hid S
        clear S
        go_upto_region 29 with fail
        obtain ⟨k0, k1, k2, k3, k4, k5, k6, k7⟩ := cells8 HS4.out.blk
        have fz := blk_frozen HS4.out.blk 5
        have SB := HS4.out.put 5 (u := .bool true) (y := (fr 0 n2 0 0 0 true [] [])) (u6 := (.slice none 0 0)) (u7 := (.slice none 0 0)) rfl HS4.out.r6 HS4.out.r7
        have HS5 := Lib.hid SB
        clear SB
        obtain ⟨a, hA⟩ : ∃ a, dataR (rFail 5 c3) x3 = a := ⟨_, rfl⟩
        obtain ⟨d6, c6, x6⟩ := a
        have l6 := dataR_len (rFail 5 c3) x3
        rw [hA] at l6
        simp only at l6
        obtain ⟨l6a, l6b⟩ := l6
        have N := data_calls HS5.out.rdr (by omega)
        rw [hA] at N
        have HA6 := Lib.hid hA
        have HN := Lib.hid N
        clear N hA
        go_wp2_with fail
        clear k0 k1 k2 k3 k4 k5 k6 k7 fz
        have hfb := blk_lt HS5.out.blk
        refine HN.out.mono ?_
        rintro e w8 ⟨v6, rfl, R, D, K⟩
        obtain ⟨A6, n6, q6, e6⟩ := R_slice R
        subst e6
        have S := HS5.out.keep K D
        obtain ⟨k0, k1, k2, k3, k4, k5, k6, k7⟩ := cells8 S.blk
        have fz := blk_frozen S.blk 6
        have SB := S.put 6 (u := .slice A6 n6 q6) (y := (fr 0 n2 0 0 0 true d6 [])) (u6 := .slice A6 n6 q6) (u7 := (.slice none 0 0)) rfl (Kd.R_lower R hfb) S.r7
        have HS6 := Lib.hid SB
        clear S SB HN R D K hfb
        go_wp2_with fail
        clear k0 k1 k2 k3 k4 k5 k6 k7 fz
        go_meet
        case rel => exact ⟨8, (fr 0 n2 0 0 0 true d6 []), c6, x6, (.slice A6 n6 q6), (.slice none 0 0), rfl, HS6, Lib.hid (by show bodyR 15 c1 x1 = _; unfold bodyR; simp [HA2.out, HA3.out, HA6.out, fr]; done), ⟨by simp [fr], by simp [fr]⟩, by omega, by simp only [fr, List.length_nil]; omega⟩
      · clear k0 k1 k2 k3 k4 k5 k6 k7 fz
        have t0 : (n3 == 0) = false := by simp [hz]
        have HZ := Lib.hid hz
        clear hz
        obtain ⟨k0, k1, k2, k3, k4, k5, k6, k7⟩ := cells8 HS3.out.blk
        dsimp only [fr] at k2
        have fz := True.intro
        go_upto_region 29 with fail
        clear k0 k1 k2 k3 k4 k5 k6 k7 fz
        obtain ⟨k0, k1, k2, k3, k4, k5, k6, k7⟩ := cells8 HS3.out.blk
        have fz := blk_frozen HS3.out.blk 5
        have SB := HS3.out.put 5 (u := .bool true) (y := (fr 0 n2 n3 0 0 true [] [])) (u6 := (.slice none 0 0)) (u7 := (.slice none 0 0)) rfl HS3.out.r6 HS3.out.r7
        have HS4 := Lib.hid SB
        clear SB
        obtain ⟨a, hA⟩ : ∃ a, dataR c3 x3 = a := ⟨_, rfl⟩
        obtain ⟨d5, c5, x5⟩ := a
        have l5 := dataR_len c3 x3
        rw [hA] at l5
        simp only at l5
        obtain ⟨l5a, l5b⟩ := l5
        have N := data_calls HS4.out.rdr (by omega)
        rw [hA] at N
        have HA5 := Lib.hid hA
        have HN := Lib.hid N
        clear N hA
        go_wp2_with fail
        clear k0 k1 k2 k3 k4 k5 k6 k7 fz
        have hfb := blk_lt HS4.out.blk
        refine HN.out.mono ?_
        rintro e w7 ⟨v6, rfl, R, D, K⟩
        obtain ⟨A6, n6, q6, e6⟩ := R_slice R
        subst e6
        have S := HS4.out.keep K D
        obtain ⟨k0, k1, k2, k3, k4, k5, k6, k7⟩ := cells8 S.blk
        have fz := blk_frozen S.blk 6
        have SB := S.put 6 (u := .slice A6 n6 q6) (y := (fr 0 n2 n3 0 0 true d5 [])) (u6 := .slice A6 n6 q6) (u7 := (.slice none 0 0)) rfl (Kd.R_lower R hfb) S.r7
        have HS5 := Lib.hid SB
        clear S SB HN R D K hfb
        go_wp2_with fail
        clear k0 k1 k2 k3 k4 k5 k6 k7 fz
        go_meet
        case rel => exact ⟨8, (fr 0 n2 n3 0 0 true d5 []), c5, x5, (.slice A6 n6 q6), (.slice none 0 0), rfl, HS5, Lib.hid (by show bodyR 15 c1 x1 = _; unfold bodyR; simp [HA2.out, HA3.out, HZ.out, HA5.out, fr]; done), ⟨b3l, b3h⟩, by omega, by simp only [fr, List.length_nil]; omega⟩
    by_cases h2 : k = 2
    · subst h2
      go_wp2_with fail
      obtain ⟨a, hA⟩ : ∃ a, acksR c1 x1 = a := ⟨_, rfl⟩
      obtain ⟨l4, n2, c4, x4⟩ := a
      have hl4 := acksR_len c1 x1
      have hlt := blk_lt HS1.out.blk
      have N := acks_calls HS1.out.rdr (by omega) (by have := HS1.out.d0; have := HS1.out.kp.size; omega)
      rw [hA] at N hl4
      simp only [boxOf, fr] at N
      have HA := Lib.hid hA
      refine N.mono ?_
      clear N hA
      rintro e w4 ⟨v7, rfl, R7, D4, K4⟩
      obtain ⟨A7, n7, q7, e7⟩ := R_slice R7
      subst e7
      have S4 := HS1.out.keep K4 D4
      obtain ⟨k0, k1, k2, k3, k4, k5, k6, k7⟩ := cells8 S4.blk
      have z0 := blk_frozen S4.blk 0; have z1 := blk_frozen S4.blk 1; have z2 := blk_frozen S4.blk 2; have z3 := blk_frozen S4.blk 3
      have z4 := blk_frozen S4.blk 4; have z5 := blk_frozen S4.blk 5; have z6 := blk_frozen S4.blk 6; have z7 := blk_frozen S4.blk 7
      have HS4 := Lib.hid (over84 (n := n2) S4 (Kd.R_lower R7 (by omega)))
      clear S4 K4 D4 R7
      go_wp2_with fail
      go_meet
      case rel => exact ⟨2, fr 0 0 0 n2 0 false [] l4, c4, x4, _, _, rfl, HS4, Lib.hid (by show bodyR 2 c1 x1 = _; unfold bodyR; simp [HA.out, fr]; done), ⟨by simp [fr], by simp [fr]⟩, by have h : x4.length ≤ x1.length := hl4; omega, by simp only [fr, List.length_nil]; omega⟩
    have g0 : (k == 0) = false := by simp [h0]
    have g1 : (k == 1) = false := by simp [h1]
    have g30 : (k == 30) = false := by simp [h30]
    have g2 : (k == 2) = false := by simp [h2]
    have g4 : (k == 4) = false := by simp [h4]
    have g5 : (k == 5) = false := by simp [h5]
    have g6 : (k == 6) = false := by simp [h6]
    have g10 : (k == 10) = false := by simp [h10]
    have g11 : (k == 11) = false := by simp [h11]
    have g14 : (k == 14) = false := by simp [h14]
    have g15 : (k == 15) = false := by simp [h15]
    have g16 : (k == 16) = false := by simp [h16]
    have g18 : (k == 18) = false := by simp [h18]
    have g17 : (k == 17) = false := by simp [h17]
    have g28 : (k == 28) = false := by simp [h28]
    have HH := Lib.hid (And.intro h0 (And.intro h1 (And.intro h30 (And.intro h2 (And.intro h4 (And.intro h5 (And.intro h6 (And.intro h10 (And.intro h11 (And.intro h14 (And.intro h15 (And.intro h16 (And.intro h18 (And.intro h17 h28))))))))))))))
    clear h0 h1 h30 h2 h4 h5 h6 h10 h11 h14 h15 h16 h18 h17 h28
    go_wp2_with fail
    refine (fail_st HS1.out 6).mono ?_
    rintro e w4 ⟨rfl, S4⟩
    have HS4 := Lib.hid S4
    clear S4
    go_wp2_with fail
    go_meet
    case rel =>
      have hb : bodyR k c1 x1 = (fr k 0 0 0 0 false [] [], rFail 6 c1, x1) := by
        obtain ⟨h0, h1, h30, h2, h4, h5, h6, h10, h11, h14, h15, h16, h18, h17, h28⟩ := HH.out
        unfold bodyR
        simp [h0, h1, h30, h2, h4, h5, h6, h10, h11, h14, h15, h16, h18, h17, h28]
      exact ⟨k, z58, rFail 6 c1, x1, .slice none 0 0, .slice none 0 0, rfl, HS4, Lib.hid hb, ⟨by simp [z58], by simp [z58]⟩, by omega, by simp only [z58, List.length_nil]; omega⟩
  case rest =>
    obtain ⟨kf, x, c', xs', v6, v7, rfl, HS, HBR, ⟨bf0, bf1⟩, hxl, hdl⟩ := hcut
    obtain ⟨A6, q6, e6, -, -, -⟩ := HS.out.r6.read
    obtain ⟨A7, n7, q7, e7⟩ := R_slice HS.out.r7
    subst e6
    subst e7
    obtain ⟨k0, k1, k2, k3, k4, k5, k6, k7⟩ := cells8 HS.out.blk
    have fz := blk_frozen HS.out.blk 0
    go_upto_region 42 with fail
    clear k0 k1 k2 k3 k4 k5 k6 k7 fz
    have HS2 := Lib.hid (HS.out.put 0 (u := .int .u64 kf) (y := ⟨kf, x.f1, x.f2, x.f3, x.f4, x.f5, x.f6, x.f7⟩) (u6 := .slice A6 x.f6.length q6) (u7 := .slice A7 n7 q7) rfl HS.out.r6 HS.out.r7)
    generalize (wc.setCell { block := fb, off := 0 } (Value.int IntKind.u64 kf)) = wd at *
    clear HS HS1
    have hwl : IntKind.u64.wrap (x.f6.length : Int) = x.f6.length := by rw [IntKind.wrap_u64]; omega
    have hws : IntKind.u64.wrap (4611686018427387903 - (x.f6.length : Int)) = 4611686018427387903 - (x.f6.length : Int) := by rw [IntKind.wrap_u64]; omega
    obtain ⟨k0, k1, k2, k3, k4, k5, k6, k7⟩ := cells8 HS2.out.blk
    by_cases hfar : x.f2 > 4611686018427387903 - (x.f6.length : Int)
    · go_wp2_with fail
      clear k0 k1 k2 k3 k4 k5 k6 k7
      refine (fail_st HS2.out 2).mono ?_
      rintro e w9 ⟨rfl, S9⟩
      have HS9 := Lib.hid S9
      clear S9 HS2
      obtain ⟨k0, k1, k2, k3, k4, k5, k6, k7⟩ := cells8 HS9.out.blk
      have hrb := HS9.out.kp.blk HK1.out (by omega)
      have z0 := blk_frozen hrb 0; have z1 := blk_frozen hrb 1; have z2 := blk_frozen hrb 2; have z3 := blk_frozen hrb 3
      have z4 := blk_frozen hrb 4; have z5 := blk_frozen hrb 5; have z6 := blk_frozen hrb 6; have z7 := blk_frozen hrb 7
      have y0 := blk_cell hrb 0; have y1 := blk_cell hrb 1; have y2 := blk_cell hrb 2; have y3 := blk_cell hrb 3
      have y4 := blk_cell hrb 4; have y5 := blk_cell hrb 5; have y6 := blk_cell hrb 6; have y7 := blk_cell hrb 7
      have hne : w.heap.size ≠ fb := by omega
      clear hrb
      go_wp2_with fail
      clear k0 k1 k2 k3 k4 k5 k6 k7 z0 z1 z2 z3 z4 z5 z6 z7 y0 y1 y2 y3 y4 y5 y6 y7
      obtain ⟨W, hW, hb, r6, r7, rd, kp⟩ := handed HS9.out (Kp.of_below HB1.out) rfl HK1.out hp hd
      simp only at hW
      rw [← hW]
      refine bodyPost_ret (ends (by kernel_rfl) rfl hb) rfl ?_
      have et := HT.out
      rw [HBR.out] at et
      unfold farR at et
      simp only at et
      rw [if_pos hfar] at et
      subst et
      exact ⟨_, _, rfl, r6, r7, rd, kp⟩
    · go_upto_region 44 with fail
      clear k0 k1 k2 k3 k4 k5 k6 k7
      have HS9 := HS2
      obtain ⟨k0, k1, k2, k3, k4, k5, k6, k7⟩ := cells8 HS9.out.blk
      have hrb := HS9.out.kp.blk HK1.out (by omega)
      have z0 := blk_frozen hrb 0; have z1 := blk_frozen hrb 1; have z2 := blk_frozen hrb 2; have z3 := blk_frozen hrb 3
      have z4 := blk_frozen hrb 4; have z5 := blk_frozen hrb 5; have z6 := blk_frozen hrb 6; have z7 := blk_frozen hrb 7
      have y0 := blk_cell hrb 0; have y1 := blk_cell hrb 1; have y2 := blk_cell hrb 2; have y3 := blk_cell hrb 3
      have y4 := blk_cell hrb 4; have y5 := blk_cell hrb 5; have y6 := blk_cell hrb 6; have y7 := blk_cell hrb 7
      have hne : w.heap.size ≠ fb := by omega
      clear hrb
      go_wp2_with fail
      clear k0 k1 k2 k3 k4 k5 k6 k7 z0 z1 z2 z3 z4 z5 z6 z7 y0 y1 y2 y3 y4 y5 y6 y7
      obtain ⟨W, hW, hb, r6, r7, rd, kp⟩ := handed HS9.out (Kp.of_below HB1.out) rfl HK1.out hp hd
      simp only at hW
      rw [← hW]
      refine bodyPost_ret (ends (by kernel_rfl) rfl hb) rfl ?_
      have et := HT.out
      rw [HBR.out] at et
      unfold farR at et
      simp only at et
      rw [if_neg (by omega)] at et
      subst et
      exact ⟨_, _, rfl, r6, r7, rd, kp⟩
end Go.Proofs.Ytmccghadgihbpaa.ParseOne

