/- The law LossWhole: behind the switch: as many bytes are under way as the maps hold. -/
import Derived.Test.YtgdboikoejodpaaWholeP
import Derived.Test.YtgdboikoejodpaaWholeD
import Derived.Test.YtgdboikoejodpaaWholeS
namespace Go.Proofs.Ytgdboikoejodpaa.WholeT
open Go Go.RowKit Go.Proofs.YtgdboikoejodpaaW.PrintWords Go.Proofs.YtgdboikoejodpaaW.PrintLast Go.Proofs.YtgdboikoejodpaaW.PrintMore Go.Proofs.Ytgdboikoejodpaa.Keep Go.Proofs.Ytgdboikoejodpaa.Led Go.Proofs.Ytgdboikoejodpaa.Rate Go.Proofs.Ytgdboikoejodpaa.Rd Go.Proofs.Ytgdboikoejodpaa.Timer Go.Proofs.Ytgdboikoejodpaa.LedSp Go.Proofs.Ytgdboikoejodpaa.Drop Go.Proofs.Ytgdboikoejodpaa.In Go.Proofs.Ytgdboikoejodpaa.Split Go.Proofs.Ytgdboikoejodpaa.GoneP Go.Proofs.Ytgdboikoejodpaa.Gone Go.Proofs.Ytgdboikoejodpaa.AckP Go.Proofs.Ytgdboikoejodpaa.Ack Go.Proofs.Ytgdboikoejodpaa.Clone Go.Proofs.Ytgdboikoejodpaa.Sent Go.Proofs.Ytgdboikoejodpaa.Inv Go.Proofs.Ytgdboikoejodpaa.Fire Go.Proofs.Ytgdboikoejodpaa.Law Go.Proofs.Ytgdboikoejodpaa.WholeP Go.Proofs.Ytgdboikoejodpaa.WholeO Go.Proofs.Ytgdboikoejodpaa.WholeW Go.Proofs.Ytgdboikoejodpaa.OpenL Go.Proofs.Ytgdboikoejodpaa.Acts
set_option linter.unusedVariables false
def sk (ls : Nat → List S) : Nat → Int
  | 0 => 0
  | j + 1 => sk ls j + sumS (ls j)
set_option maxHeartbeats 8000000 in
set_option maxRecDepth 1000000 in
theorem tail (w : World) (B : Option Addr) (c : Nat) (l : List A) (p ob nb m0 m1 m2 : Nat) (k : Nat) (hk1 : k ≤ 100) (a : Act) (wr : World) (HS : SO w B c l p ob nb m0 m1 m2 k a wr) (Q : Exit → Act → World → Prop) (hQ : Hid (∀ a' w', SO w B c l p ob nb m0 m1 m2 k a' w' → Q .normal a' w')) :
    Code.wp Try.prog tl Q a wr := by
  obtain ⟨u, rfl, hu⟩ := laid a HS.size HS.defs
  obtain ⟨now, n, L, v, hw0, hw1, hnk, HWW0, s0, s3, s4, s5, s6, s7, s35, s36, s37⟩ := HS.rel
  have g0 := (hu 0).trans s0
  have g3 := (hu 3).trans s3
  have g4 := (hu 4).trans s4
  have g5 := (hu 5).trans s5
  have g6 := (hu 6).trans s6
  have g7 := (hu 7).trans s7
  have g35 := (hu 35).trans s35
  have g36 := (hu 36).trans s36
  have g37 := (hu 37).trans s37
  simp only [g0, g3, g4, g5, g6, g7, g35, g36, g37]
  conv => arg 2; whnf
  have HX0 := Lib.hid HWW0.x
  have HND := Lib.hid HWW0.nd
  have sb : ∀ j, j < 3 → 0 ≤ sumS (lsL L j) ∧ sumS (lsL L j) ≤ 1228800 := fun j hj => ⟨HWW0.x.lw.inv.nn j hj, HWW0.x.lw.inv.flb j hj⟩
  have hsk : ∀ j, j ≤ 3 → 0 ≤ sk (lsL L) j ∧ sk (lsL L) j ≤ 1228800 * j := fun j => by
    induction j with
    | zero => intro _; simp [sk]
    | succ j ih => intro hj; have h1 := ih (by omega); have h2 := sb j (by omega); simp only [sk]; omega
  have HSK := Lib.hid hsk
  have HSB := Lib.hid sb
  clear HS HWW0 hu hsk sb g0 s0 g3 s3 g4 s4 g5 s5 g6 s6 g7 s7 g35 s35 g36 s36 g37 s37
  go_wp2_with fail
  go_loopw [19, 166] (fun y t wr => ∃ (j : Nat), j ≤ 3 ∧ t = .int .i64 (j : Int) ∧ y = .int .u64 (sk (lsL L) j) ∧ Hid (WX w p ob nb m0 m1 m2 (k + 1) n L v (nxL L) (lsL L) wr)) (fun y t _ => 3 - (intOf t).toNat)
  case atStart => exact ⟨0, by omega, rfl, rfl, HX0⟩
  case round =>
    obtain ⟨j, hj, rfl, rfl, HX⟩ := hrel
    rename World => wx
    by_cases hj3 : j < 3
    · obtain ⟨D, ho, hm⟩ := HX.out.mp j hj3
      have HM := Lib.hid hm
      have HO := Lib.hid ho
      have hj9 : ((j : Nat) : Int) < 3 := by omega
      have oc := o_cell HX.out.hob j hj3
      clear ho hm
      go_wp2_with (first
        | (at_range; refine wpList_range_own _ rfl _ 51 rfl 25 25 keyed Try.underlying51 _ (mth m0 m1 m2 j) (k + 1) _ rfl HO.out ?_; intro wq hrg0 hg0 hs0)
        | fail)
      go_frame
      go_loopw [19, 22] (fun y _ wv => ∃ (left : Lit → Bool) (cnt : Nat), wv.ranges Try.prog 25 pe (mth m0 m1 m2 j) wx.heap.size (k + 1) D left cnt ∧ y = .int .u64 (sk (lsL L) j + sumLeft left (lsL L j)) ∧ Hid (Below wx.heap.size wx wv)) (fun _ _ wv => wv.rangeLeft (mth m0 m1 m2 j) wx.heap.size)
      case atStart => exact ⟨_, _, hrg0, by rw [sumLeft_start HM.out, Int.add_zero], Lib.hid ⟨hg0.os, hg0.tape, hg0.output, hg0.size, fun i hi => hg0.block i hi (by simp)⟩⟩
      case round =>
        clear hrg0 hg0 hs0
        obtain ⟨left, cnt, hrg, rfl, HB⟩ := hrel
        have hsb := HSB.out j hj3
        have hsk := HSK.out j (by omega)
        have hpos : ∀ z ∈ lsL L j, 0 ≤ z.size := fun z hz => (HX.out.lw.inv.b.list j hj3 z hz).2.2.2.2.1
        have hlb := sumLeft_b left hpos
        go_wp2_with (first
          | (at_next; refine wpList_next_ranges_ii _ rfl _ rfl 25 25 .u64 .u64 keyed Try.underlying25 Try.underlying25 (mth m0 m1 m2 j) wx.heap.size (k + 1) _ _ _ rfl hrg ?_ ?_)
          | fail)
        · intro _ hl0
          have hs9 : sk (lsL L) j + sumLeft left (lsL L j) = sk (lsL L) (j + 1) := by rw [sumLeft_end hl0]; rfl
          have HX9 := Lib.hid (HX.out.go HB.out)
          obtain ⟨l0, hl0'⟩ : ∃ t, lsL L j = t := ⟨_, rfl⟩
          have hmany : l0.length ≤ 1024 := by rw [← hl0']; exact HX.out.lw.inv.b.many j hj3
          have HL0 : Hid (lsL L j = l0) := Lib.hid hl0'
          simp only [hs9]
          have hlq : ((l0.length : Int) != (l0.length : Int)) = false := by simp
          clear hlb hpos hsb hsk hrg hl0 HO HM oc hl0' hs9
          go_upto_region 46 with fail
          refine Flow.wp_region_lit [180, 181, 182, 183, 184, 185, 186, 187, 188] (by kernel_rfl) (fun jj W v => match jj with | 0 => v = .pointer (some ⟨p, 0, none⟩) | 1 => v = .int .i64 (j : Int) | 2 => ∃ A c, v = .slice A l0.length c | 3 => v = .int .i64 (l0.length : Int) | 4 => v = .int .i64 (j : Int) | 5 => v = .pointer (some ⟨ob, j, none⟩) | 6 => v = .map (some (mth m0 m1 m2 j)) | 7 => v = .int .i64 (l0.length : Int) | 8 => v = .bool false | _ => True) (fun W => WX w p ob nb m0 m1 m2 (k + 1) n L v (nxL L) (lsL L) W) (by kernel_rfl) (by kernel_rfl) (by kernel_rfl) (by kernel_rfl) (HX9.out.go (Below.refl _ _).drew) ?_ ?_
          · intro i o ho a W hG hk hdep
            have hi : i < 9 := (Array.getElem?_eq_some_iff.1 ho).1
            rcases (by omega : i = 0 ∨ i = 1 ∨ i = 2 ∨ i = 3 ∨ i = 4 ∨ i = 5 ∨ i = 6 ∨ i = 7 ∨ i = 8) with rfl | rfl | rfl | rfl | rfl | rfl | rfl | rfl | rfl
            · obtain rfl := Option.some.inj ho
              have e3 : a.tmps.getD 3 undef = .pointer (some ⟨p, 0, none⟩) := hk 3 (by kernel_rfl)
              refine Flow.op_want rfl rfl (fun K hK => ?_)
              clear hdep hk ho
              go_simp
              exact hK _ _ ⟨_, rfl, hG, rfl, fun _ _ h => h⟩
            · obtain rfl := Option.some.inj ho
              have e20 : a.tmps.getD 20 undef = .int .i64 (j : Int) := hk 20 (by kernel_rfl)
              refine Flow.op_want rfl rfl (fun K hK => ?_)
              clear hdep hk ho
              go_simp
              exact hK _ _ ⟨_, rfl, hG, rfl, fun _ _ h => h⟩
            · obtain rfl := Option.some.inj ho
              have e180 : a.tmps.getD 180 undef = .pointer (some ⟨p, 0, none⟩) := hdep 0 180 (by kernel_rfl)
              have e181 : a.tmps.getD 181 undef = .int .i64 (j : Int) := hdep 1 181 (by kernel_rfl)
              refine Flow.op_want rfl rfl (fun K hK => ?_)
              clear hdep hk ho
              go_simp
              have HL0' : (L.sp j).list = l0 := HL0.out
              refine (open_calls hG.lw.led j hj3 (by rw [HL0']; omega)).mono ?_
              rintro e W2 ⟨va, rfl, R, B2⟩
              obtain ⟨A, c, rfl, -⟩ := row_slice R
              rw [HL0']
              exact hK _ _ ⟨_, rfl, hG.go B2, ⟨A, c, rfl⟩, fun _ _ h => h⟩
            · obtain rfl := Option.some.inj ho
              have e182 : (fun (W : World) (v : Value) => ∃ A c, v = .slice A l0.length c) W (a.tmps.getD 182 undef) := hdep 2 182 (by kernel_rfl)
              refine Flow.op_want rfl rfl (fun K hK => ?_)
              obtain ⟨A, c, e182⟩ := e182
              clear hdep hk ho
              go_simp
              exact hK _ _ ⟨_, rfl, hG, rfl, fun _ _ h => h⟩
            · obtain rfl := Option.some.inj ho
              have e20 : a.tmps.getD 20 undef = .int .i64 (j : Int) := hk 20 (by kernel_rfl)
              refine Flow.op_want rfl rfl (fun K hK => ?_)
              clear hdep hk ho
              go_simp
              exact hK _ _ ⟨_, rfl, hG, rfl, fun _ _ h => h⟩
            · obtain rfl := Option.some.inj ho
              have e4 : a.tmps.getD 4 undef = .pointer (some ⟨ob, 0, none⟩) := hk 4 (by kernel_rfl)
              have e184 : a.tmps.getD 184 undef = .int .i64 (j : Int) := hdep 4 184 (by kernel_rfl)
              refine Flow.op_want rfl rfl (fun K hK => ?_)
              clear hdep hk ho
              go_simp
              exact hK _ _ ⟨_, rfl, hG, rfl, fun _ _ h => h⟩
            · obtain rfl := Option.some.inj ho
              have e185 : a.tmps.getD 185 undef = .pointer (some ⟨ob, j, none⟩) := hdep 5 185 (by kernel_rfl)
              have c := o_cell hG.hob j hj3
              refine Flow.op_want rfl rfl (fun K hK => ?_)
              clear hdep hk ho
              go_simp
              exact hK _ _ ⟨_, rfl, hG, rfl, fun _ _ h => h⟩
            · obtain rfl := Option.some.inj ho
              have e186 : a.tmps.getD 186 undef = .map (some (mth m0 m1 m2 j)) := hdep 6 186 (by kernel_rfl)
              obtain ⟨D1, ho1, hm1⟩ := hG.mp j hj3
              have hln := fun ty => ho1.len Try.underlying51 ty
              simp only [hm1.size, HL0.out] at hln
              refine Flow.op_want rfl rfl (fun K hK => ?_)
              clear hdep hk ho
              go_simp
              exact hK _ _ ⟨_, rfl, hG, rfl, fun _ _ h => h⟩
            · obtain rfl := Option.some.inj ho
              have e183 : a.tmps.getD 183 undef = .int .i64 (l0.length : Int) := hdep 3 183 (by kernel_rfl)
              have e187 : a.tmps.getD 187 undef = .int .i64 (l0.length : Int) := hdep 7 187 (by kernel_rfl)
              refine Flow.op_want rfl rfl (fun K hK => ?_)
              clear hdep hk ho
              go_simp
              exact hK _ _ ⟨_, rfl, hG, rfl, fun _ _ h => h⟩
          · intro us9 w9 hG9 hval
            have hv8 : us9 188 = .bool false := hval 8 _ 188 rfl rfl
            clear hval
            simp only [Flow.lay, List.set_cons_zero, List.set_cons_succ, hv8]
            have HXE := Lib.hid hG9
            clear hG9
            go_wp2_with fail
            go_roundw
            case rel => exact ⟨j + 1, by omega, by simp, rfl, HXE⟩
            case measure => simp [intOf]; omega
        · intro x c w1 cnt1 hwx hwc hlx hat hrg1 hlt hg1 hs1 hen
          have hhas := Maps.has_true_of_atKey hat
          obtain ⟨y, hy, hyx⟩ := List.mem_map.1 ((HM.out.has x).1 hhas)
          subst hyx
          have hc : c = y.size := by
            have h1 := hat (.lit (kk 0))
            rw [HM.out.at_ y hy] at h1
            injection h1 with h1
            injection h1 with _ h1
            exact h1.symm
          subst hc
          have hst := sumLeft_step HM.out.nd hy hlx
          have hlb2 := sumLeft_b (fun z => left z && !z.sameKey (kk y.pn)) hpos
          have hwr : IntKind.u64.wrap (sk (lsL L) j + sumLeft left (lsL L j) + y.size) = sk (lsL L) j + sumLeft left (lsL L j) + y.size := by rw [IntKind.wrap_u64]; omega
          have hB1 : Below wx.heap.size wx w1 := HB.out.trans ⟨hg1.os, hg1.tape, hg1.output, hg1.size, fun i hi => hg1.block i (Nat.lt_of_lt_of_le hi HB.out.size) (by simp; omega)⟩
          have HB1 := Lib.hid hB1
          have HST := Lib.hid hst
          clear hhas hlb hlb2 hpos hsb hsk hB1 hst
          go_wp2_with fail
          go_roundw
          case rel => exact ⟨_, cnt1, hrg1, by rw [HST.out, Int.add_assoc], HB1⟩
          case measure => rw [hrg1.left_eq, hrg.left_eq]; exact hlt
    · have hj4 : j = 3 := by omega
      subst hj4
      have hfl : sk (lsL L) 3 = L.r.flight := by have := HX.out.lw.inv.t; simp only [sk, lsL]; omega
      have hwin := HX.out.lw.inv.w
      rw [hfl]
      obtain ⟨F1, hF1⟩ : ∃ t, L.r.flight = t := ⟨_, rfl⟩
      obtain ⟨W1, hW1⟩ : ∃ t, L.r.window = t := ⟨_, rfl⟩
      have SC := lw_state HX.out.lw
      rw [hF1, hW1] at SC
      rw [hW1] at hwin
      rw [hF1]
      have HSC := Lib.hid SC
      have hne : (F1 != F1) = false := by simp
      have hlt : decide (W1 < 2400) = false := by simp; omega
      clear SC hfl
      go_wp2_with fail
      refine HSC.out.mono ?_
      rintro e w4 ⟨rfl, m4, rfl⟩
      go_wp2_with fail
      exact hQ.out _ _ ⟨rfl, rfl, now, n, L, v, hw0, hw1, hnk, ⟨HX.out.drewN m4, HND.out⟩, rfl, rfl, rfl, rfl, rfl, rfl, rfl, rfl, rfl⟩
end Go.Proofs.Ytgdboikoejodpaa.WholeT

namespace Go.Proofs.Ytgdboikoejodpaa.LossWhole
open Go Go.RowKit Go.Proofs.YtgdboikoejodpaaW.PrintWords Go.Proofs.YtgdboikoejodpaaW.PrintLast Go.Proofs.YtgdboikoejodpaaW.PrintMore Go.Proofs.Ytgdboikoejodpaa.Keep Go.Proofs.Ytgdboikoejodpaa.Led Go.Proofs.Ytgdboikoejodpaa.Rate Go.Proofs.Ytgdboikoejodpaa.Rd Go.Proofs.Ytgdboikoejodpaa.Timer Go.Proofs.Ytgdboikoejodpaa.LedSp Go.Proofs.Ytgdboikoejodpaa.Drop Go.Proofs.Ytgdboikoejodpaa.In Go.Proofs.Ytgdboikoejodpaa.Split Go.Proofs.Ytgdboikoejodpaa.GoneP Go.Proofs.Ytgdboikoejodpaa.Gone Go.Proofs.Ytgdboikoejodpaa.AckP Go.Proofs.Ytgdboikoejodpaa.Ack Go.Proofs.Ytgdboikoejodpaa.Clone Go.Proofs.Ytgdboikoejodpaa.Sent Go.Proofs.Ytgdboikoejodpaa.Inv Go.Proofs.Ytgdboikoejodpaa.Fire Go.Proofs.Ytgdboikoejodpaa.Law Go.Proofs.Ytgdboikoejodpaa.WholeP Go.Proofs.Ytgdboikoejodpaa.WholeO Go.Proofs.Ytgdboikoejodpaa.WholeW Go.Proofs.Ytgdboikoejodpaa.OpenL Go.Proofs.Ytgdboikoejodpaa.Acts
set_option linter.unusedVariables false
theorem done (w : World) (B : Option Addr) (c : Nat) (l : List A) (p ob nb m0 m1 m2 : Nat) (k i b : Nat) (now kd : Int) (n : Nat) (L : Lg) (v : Nat → Value) (x : A) (F : Option Addr) (f : Nat) (BB : Option Addr) (d : Nat) (a : Act) (wr : World) (hkd : 0 ≤ kd ∧ kd ≤ 7) (HS : SI w B c l p ob nb m0 m1 m2 k i b now kd n L v x F f BB d a wr) (K : Act → World → Prop) (Q' : Exit → Act → World → Prop) (hK : Hid (∀ a' w', SO w B c l p ob nb m0 m1 m2 k a' w' → K a' w')) (hX : Hid (∀ a' w', SO w B c l p ob nb m0 m1 m2 k a' w' → Q' (.exit 1) a' w')) :
    Code.wp Try.prog sw (Exit.then K Q') a wr := by
  by_cases h3 : kd ≤ 3
  · exact WholeS.done w B c l p ob nb m0 m1 m2 k i b now kd ⟨hkd.1, h3⟩ n L v x F f BB d a wr HS K Q' hK hX
  · rcases (by omega : kd = 4 ∨ kd = 5 ∨ kd = 6 ∨ kd = 7) with rfl | rfl | rfl | rfl
    · exact WholeA.done w B c l p ob nb m0 m1 m2 k i b now n L v x F f BB d a wr HS K Q' hK hX
    · exact WholeE.done w B c l p ob nb m0 m1 m2 k i b now n L v x F f BB d a wr HS K Q' hK hX
    · exact WholeF.done w B c l p ob nb m0 m1 m2 k i b now n L v x F f BB d a wr HS K Q' hK hX
    · exact WholeD.done w B c l p ob nb m0 m1 m2 k i b now n L v x F f BB d a wr HS K Q' hK hX
set_option maxHeartbeats 8000000 in
set_option maxRecDepth 1000000 in
theorem round (w : World) (B : Option Addr) (c : Nat) (l : List A) (p ob nb m0 m1 m2 : Nat) (HC : Hid (Kd.C kA w B l.length l)) (HBA : Hid (∀ x ∈ l, BA x)) (hlb : l.length ≤ 9223372036854775807) (u : Nat → Value) (k : Nat) (now : Int) (n : Nat) (L : Lg) (v : Nat → Value) (wr : World) (Q0 : Exit → Act → World → Prop) (hexit : ∀ a w'', a.tmps.size = 205 → a.defers = [] → Below w.heap.size w w'' → Q0 (.exit 0) a w'')
    (hk2 : k ≤ 101) (hnk : n ≤ k) (hw0 : 1 ≤ now) (hw1 : now ≤ 1 + 200 * (k : Int)) (HWW : Hid (WW w p ob nb m0 m1 m2 k n L v wr)) :
    Code.wp Try.prog body (Exit.then (fun a' w'' => WI w B c l p ob nb m0 m1 m2 a' w'' ∧ Wmu l a' w'' < Wmu l ⟨#[.slice B l.length c, u 1, u 2, .pointer (some ⟨p, 0, none⟩), .pointer (some ⟨ob, 0, none⟩), .pointer (some ⟨nb, 0, none⟩), .int .u64 now, .func (.func 20) #[] #[.pointer (some ⟨ob, 0, none⟩)], u 8, u 9, u 10, u 11, u 12, u 13, u 14, u 15, u 16, u 17, u 18, u 19, u 20, u 21, u 22, u 23, u 24, u 25, u 26, u 27, u 28, u 29, u 30, u 31, u 32, u 33, u 34, .slice B l.length c, .int .i64 (l.length : Int), .int .i64 (k : Int), u 38, u 39, u 40, u 41, u 42, u 43, u 44, u 45, u 46, u 47, u 48, u 49, u 50, u 51, u 52, u 53, u 54, u 55, u 56, u 57, u 58, u 59, u 60, u 61, u 62, u 63, u 64, u 65, u 66, u 67, u 68, u 69, u 70, u 71, u 72, u 73, u 74, u 75, u 76, u 77, u 78, u 79, u 80, u 81, u 82, u 83, u 84, u 85, u 86, u 87, u 88, u 89, u 90, u 91, u 92, u 93, u 94, u 95, u 96, u 97, u 98, u 99, u 100, u 101, u 102, u 103, u 104, u 105, u 106, u 107, u 108, u 109, u 110, u 111, u 112, u 113, u 114, u 115, u 116, u 117, u 118, u 119, u 120, u 121, u 122, u 123, u 124, u 125, u 126, u 127, u 128, u 129, u 130, u 131, u 132, u 133, u 134, u 135, u 136, u 137, u 138, u 139, u 140, u 141, u 142, u 143, u 144, u 145, u 146, u 147, u 148, u 149, u 150, u 151, u 152, u 153, u 154, u 155, u 156, u 157, u 158, u 159, u 160, u 161, u 162, u 163, u 164, u 165, u 166, u 167, u 168, u 169, u 170, u 171, u 172, u 173, u 174, u 175, u 176, u 177, u 178, u 179, u 180, u 181, u 182, u 183, u 184, u 185, u 186, u 187, u 188, u 189, u 190, u 191, u 192, u 193, u 194, u 195, u 196, u 197, u 198, u 199, u 200, u 201, u 202, u 203, u 204], []⟩ wr) Q0) ⟨#[.slice B l.length c, u 1, u 2, .pointer (some ⟨p, 0, none⟩), .pointer (some ⟨ob, 0, none⟩), .pointer (some ⟨nb, 0, none⟩), .int .u64 now, .func (.func 20) #[] #[.pointer (some ⟨ob, 0, none⟩)], u 8, u 9, u 10, u 11, u 12, u 13, u 14, u 15, u 16, u 17, u 18, u 19, u 20, u 21, u 22, u 23, u 24, u 25, u 26, u 27, u 28, u 29, u 30, u 31, u 32, u 33, u 34, .slice B l.length c, .int .i64 (l.length : Int), .int .i64 (k : Int), u 38, u 39, u 40, u 41, u 42, u 43, u 44, u 45, u 46, u 47, u 48, u 49, u 50, u 51, u 52, u 53, u 54, u 55, u 56, u 57, u 58, u 59, u 60, u 61, u 62, u 63, u 64, u 65, u 66, u 67, u 68, u 69, u 70, u 71, u 72, u 73, u 74, u 75, u 76, u 77, u 78, u 79, u 80, u 81, u 82, u 83, u 84, u 85, u 86, u 87, u 88, u 89, u 90, u 91, u 92, u 93, u 94, u 95, u 96, u 97, u 98, u 99, u 100, u 101, u 102, u 103, u 104, u 105, u 106, u 107, u 108, u 109, u 110, u 111, u 112, u 113, u 114, u 115, u 116, u 117, u 118, u 119, u 120, u 121, u 122, u 123, u 124, u 125, u 126, u 127, u 128, u 129, u 130, u 131, u 132, u 133, u 134, u 135, u 136, u 137, u 138, u 139, u 140, u 141, u 142, u 143, u 144, u 145, u 146, u 147, u 148, u 149, u 150, u 151, u 152, u 153, u 154, u 155, u 156, u 157, u 158, u 159, u 160, u 161, u 162, u 163, u 164, u 165, u 166, u 167, u 168, u 169, u 170, u 171, u 172, u 173, u 174, u 175, u 176, u 177, u 178, u 179, u 180, u 181, u 182, u 183, u 184, u 185, u 186, u 187, u 188, u 189, u 190, u 191, u 192, u 193, u 194, u 195, u 196, u 197, u 198, u 199, u 200, u 201, u 202, u 203, u 204], []⟩ wr := by
  conv => arg 2; whnf
  have HBW := Lib.hid HWW.out.x.lw.below
  have HE := Lib.hid hexit
  clear hexit
  by_cases hkl : k < l.length
  · obtain ⟨ad, F, f, BB, d, eA, ⟨j0, j1, j2, j3, j4, j5⟩, ⟨j6, j7, j8, j9, j10⟩, ⟨j11, j12⟩, -, -⟩ := AC_get HC.out k hkl
    subst eA
    have j0 := (HBW.out.cell (World.block_lt_of_cell? w _ j0)).trans j0
    have j1 := (HBW.out.cell (World.block_lt_of_cell? w _ j1)).trans j1
    have j2 := (HBW.out.cell (World.block_lt_of_cell? w _ j2)).trans j2
    have j3 := (HBW.out.cell (World.block_lt_of_cell? w _ j3)).trans j3
    have j4 := (HBW.out.cell (World.block_lt_of_cell? w _ j4)).trans j4
    have j5 := (HBW.out.cell (World.block_lt_of_cell? w _ j5)).trans j5
    have j6 := (HBW.out.cell (World.block_lt_of_cell? w _ j6)).trans j6
    have j7 := (HBW.out.cell (World.block_lt_of_cell? w _ j7)).trans j7
    have j8 := (HBW.out.cell (World.block_lt_of_cell? w _ j8)).trans j8
    have j9 := (HBW.out.cell (World.block_lt_of_cell? w _ j9)).trans j9
    have j10 := (HBW.out.cell (World.block_lt_of_cell? w _ j10)).trans j10
    have j11 := (HBW.out.cell (World.block_lt_of_cell? w _ j11)).trans j11
    have j12 := (HBW.out.cell (World.block_lt_of_cell? w _ j12)).trans j12
    have hx : BA (l.getD k zA) := by rw [List.getD_eq_getElem?_getD, List.getElem?_eq_getElem hkl]; exact HBA.out _ (List.getElem_mem hkl)
    obtain ⟨x, hxe⟩ : ∃ x, l.getD k zA = x := ⟨_, rfl⟩
    rw [hxe] at j0 j1 j2 j3 j4 j5 j6 j7 j8 j9 j10 j11 j12 hx
    have BL := (Below.refl wr.heap.size wr).alloc (Nat.le_refl _) (aO x F f BB d)
    have HX := Lib.hid hx
    have HW1 : Hid (WW w p ob nb m0 m1 m2 k n L v (wr.alloc (aO x F f BB d))) := Lib.hid ⟨HWW.out.x.go BL, HWW.out.nd⟩
    have HBX := Lib.hid (heap_alloc_new wr (aO x F f BB d))
    clear BL hxe hx
    go_upto_region 11 with fail
    generalize wr.alloc (aO x F f BB d) = w1 at HW1 HBX ⊢
    clear j0 j1 j2 j3 j4 j5 j6 j7 j8 j9 j10 j11 j12
    have b0 := blk_cell HBX.out 0
    have b1 := blk_cell HBX.out 1
    have b3 := blk_cell HBX.out 3
    have xk := wf8_bd HX.out.1
    have xi := wf8_bd HX.out.2.1
    have xw := wf16_bd HX.out.2.2.2.1
    by_cases hb1 : (k : Int) > 100
    · go_wp2_with fail
      exact HE.out _ _ rfl rfl HW1.out.x.lw.below
    · have hwt : IntKind.u64.wrap (x.wait % 200) = x.wait % 200 := by rw [IntKind.wrap_u64]; omega
      have hwn : IntKind.u64.wrap (now + x.wait % 200) = now + x.wait % 200 := by rw [IntKind.wrap_u64]; omega
      obtain ⟨i, hi, hi3⟩ : ∃ i : Nat, x.in_ % 3 = (i : Int) ∧ i < 3 := ⟨(x.in_ % 3).toNat, by omega, by omega⟩
      have hwi : IntKind.i64.wrap (x.in_ % 3) = i := by rw [IntKind.wrap_i64]; omega
      go_upto_block 2 with fail
      rename_i K2 hK2 K1 hK1
      have FINI : ∀ a3 w3, SO w (some ad) c l p ob nb m0 m1 m2 k a3 w3 → K2 a3 w3 := by
        intro a3 w3 h3
        obtain ⟨u3, rfl, hu3⟩ := laid a3 h3.size h3.defs
        obtain ⟨now3, n3, L3, v3, z0, z1, z2, HW3, s0, s3, s4, s5, s6, s7, s35, s36, s37⟩ := h3.rel
        have g0 := (hu3 0).trans s0
        have g3 := (hu3 3).trans s3
        have g4 := (hu3 4).trans s4
        have g5 := (hu3 5).trans s5
        have g6 := (hu3 6).trans s6
        have g7 := (hu3 7).trans s7
        have g35 := (hu3 35).trans s35
        have g36 := (hu3 36).trans s36
        have g37 := (hu3 37).trans s37
        simp only [g0, g3, g4, g5, g6, g7, g35, g36, g37]
        clear g0 g3 g4 g5 g6 g7 g35 g36 g37 hu3 s0 s3 s4 s5 s6 s7 s35 s36 s37 h3 hK1
        have HW3 := Lib.hid HW3
        have hwk : IntKind.i64.wrap ((k : Int) + 1) = ((k + 1 : Nat) : Int) := by rw [IntKind.wrap_i64]; omega
        go_wp2_with fail
        refine ⟨⟨rfl, rfl, k + 1, now3, n3, L3, v3, by omega, by omega, z2, z0, by omega, HW3.out, rfl, rfl, rfl, rfl, rfl, rfl, rfl, rfl, rfl⟩, ?_⟩
        show l.length - ((k : Int) + 1).toNat < l.length - (k : Int).toNat
        omega
      have HFI := Lib.hid FINI
      clear FINI
      refine done w (some ad) c l p ob nb m0 m1 m2 k i wr.heap.size (now + x.wait % 200) (x.kind % 8) n L v x F f BB d _ w1 (by omega) ⟨rfl, rfl, rfl, rfl, rfl, rfl, rfl, rfl, rfl, rfl, rfl, rfl, rfl, rfl, hi3, by omega, by omega, by omega, by omega, HX.out, HBX.out, HW1.out⟩ K1 _ (Lib.hid fun a2 w2 h2 => ?_) (Lib.hid fun a2 w2 h2 => HFI.out a2 w2 h2)
      refine hK1 _ _ ?_
      exact WholeT.tail w (some ad) c l p ob nb m0 m1 m2 k (by omega) a2 w2 h2 _ (Lib.hid fun a3 w3 h3 => HFI.out a3 w3 h3)
  · go_wp2_with fail
    exact HE.out _ _ rfl rfl HBW.out
set_option maxHeartbeats 8000000 in
set_option maxRecDepth 1000000 in
theorem law (B : Option Addr) (l : List A) (c : Nat) (w : World) (hC : Kd.C kA w B l.length l) (hb : l.length ≤ 9223372036854775807 ∧ ∀ x ∈ l, BA x) :
    Calls Try.prog 7 #[.slice B l.length c] w fun e w' => e = .returned (.bool true) ∧ Below w.heap.size w w' := by
  obtain ⟨hlb, hba⟩ := hb
  have HC := Lib.hid hC
  have HBA := Lib.hid hba
  have hmm := @run_makeMap Try.prog
  clear hba hC
  go_enter Try.func7, Try.ntmps7
  go_wp2_with fail
  refine (awake w).mono ?_
  rintro e w1 ⟨rfl, B1⟩
  go_wp2_with fail
  refine (lw_new B1).mono ?_
  rintro e w2 ⟨p, rfl, -, H2, -⟩
  go_wp2_with fail
  have s3 : (w2.alloc (.map #[] 0)).heap.size = w2.heap.size + 1 := by simp
  have s4 : ((w2.alloc (.map #[] 0)).alloc (.map #[] 0)).heap.size = w2.heap.size + 1 + 1 := by simp
  have s5 : (((w2.alloc (.map #[] 0)).alloc (.map #[] 0)).alloc (.map #[] 0)).heap.size = w2.heap.size + 1 + 1 + 1 := by simp
  have s6 : ((((w2.alloc (.map #[] 0)).alloc (.map #[] 0)).alloc (.map #[] 0)).alloc (oO w2.heap.size (w2.heap.size + 1) (w2.heap.size + 1 + 1))).heap.size = w2.heap.size + 1 + 1 + 1 + 1 := by simp
  have o0 : Own (w2.alloc (.map #[] 0)) w2.heap.size 0 (.map []) := World.ownsMap_made _ _ _ _
  have o1 : Own ((w2.alloc (.map #[] 0)).alloc (.map #[] 0)) (w2.heap.size + 1) 0 (.map []) := by have h := World.ownsMap_made (H := Unit) (w2.alloc (.map #[] 0)) Try.prog 25 pe; rwa [s3] at h
  have o2 : Own (((w2.alloc (.map #[] 0)).alloc (.map #[] 0)).alloc (.map #[] 0)) (w2.heap.size + 1 + 1) 0 (.map []) := by have h := World.ownsMap_made (H := Unit) ((w2.alloc (.map #[] 0)).alloc (.map #[] 0)) Try.prog 25 pe; rwa [s4] at h
  have h6 := heap_alloc_new (((w2.alloc (.map #[] 0)).alloc (.map #[] 0)).alloc (.map #[] 0)) (oO w2.heap.size (w2.heap.size + 1) (w2.heap.size + 1 + 1))
  rw [s5] at h6
  have h7 := heap_alloc_new ((((w2.alloc (.map #[] 0)).alloc (.map #[] 0)).alloc (.map #[] 0)).alloc (oO w2.heap.size (w2.heap.size + 1) (w2.heap.size + 1 + 1))) (nO (fun _ => 0))
  rw [s6] at h7
  have B7 : Below w2.heap.size w2 (((((w2.alloc (.map #[] 0)).alloc (.map #[] 0)).alloc (.map #[] 0)).alloc (oO w2.heap.size (w2.heap.size + 1) (w2.heap.size + 1 + 1))).alloc (nO (fun _ => 0))) :=
    (((((Below.refl w2.heap.size w2).alloc (Nat.le_refl _) _).alloc (by rw [s3]; omega) _).alloc (by rw [s4]; omega) _).alloc (by rw [s5]; omega) _).alloc (by rw [s6]; omega) _
  have h6 := blk_below h6 (below_alloc (Below.refl _ _) (nO (fun _ => 0)))
  have hbs := H2.below.size
  have HX : WX w p (w2.heap.size + 1 + 1 + 1) (w2.heap.size + 1 + 1 + 1 + 1) w2.heap.size (w2.heap.size + 1) (w2.heap.size + 1 + 1) 0 0 newL v0 (nxL newL) (lsL newL) (((((w2.alloc (.map #[] 0)).alloc (.map #[] 0)).alloc (.map #[] 0)).alloc (oO w2.heap.size (w2.heap.size + 1) (w2.heap.size + 1 + 1))).alloc (nO (fun _ => 0))) := by
    refine ⟨H2.go B7, h6, h7, fun i hi => ?_, ⟨by omega, by omega, by omega⟩, fun i hi => ?_, by omega⟩
    · rcases three hi with rfl | rfl | rfl
      · exact ⟨_, (((o0.alloc _).alloc _).alloc _).alloc _, MO.nil⟩
      · exact ⟨_, ((o1.alloc _).alloc _).alloc _, MO.nil⟩
      · exact ⟨_, (o2.alloc _).alloc _, MO.nil⟩
    · rcases three hi with rfl | rfl | rfl
      · show _ ≤ w2.heap.size; omega
      · show _ ≤ w2.heap.size + 1; omega
      · show _ ≤ w2.heap.size + 1 + 1; omega
  have HX := Lib.hid HX
  have hnd : ND 0 newL := ⟨fun i hi => List.nodup_nil, fun i hi z hz => (nomatch hz), fun i hi => Nat.le_refl _, fun i hi => Int.le_refl _⟩
  clear s3 s4 s5 s6 o0 o1 o2 h6 h7 B7 H2 B1 hmm hbs
  generalize ((((w2.alloc (.map #[] 0)).alloc (.map #[] 0)).alloc (.map #[] 0)).alloc (oO w2.heap.size (w2.heap.size + 1) (w2.heap.size + 1 + 1))).alloc (nO (fun _ => 0)) = w7 at HX ⊢
  refine wp_loop (WI w B c l p (w2.heap.size + 1 + 1 + 1) (w2.heap.size + 1 + 1 + 1 + 1) w2.heap.size (w2.heap.size + 1) (w2.heap.size + 1 + 1)) (Wmu l) ⟨rfl, rfl, 0, 1, 0, newL, v0, by omega, by omega, by omega, by omega, by omega, ⟨HX.out, hnd⟩, rfl, rfl, rfl, rfl, rfl, rfl, rfl, rfl, rfl⟩ ?_
  intro a1 wr hI
  obtain ⟨u, rfl, hu⟩ := laid a1 hI.size hI.defs
  obtain ⟨k, now, n, L, v, hk1, hk2, hnk, hw0, hw1, HW, s0, s3, s4, s5, s6, s7, s35, s36, s37⟩ := hI.rel
  have g0 := (hu 0).trans s0
  have g3 := (hu 3).trans s3
  have g4 := (hu 4).trans s4
  have g5 := (hu 5).trans s5
  have g6 := (hu 6).trans s6
  have g7 := (hu 7).trans s7
  have g35 := (hu 35).trans s35
  have g36 := (hu 36).trans s36
  have g37 := (hu 37).trans s37
  simp only [g0, g3, g4, g5, g6, g7, g35, g36, g37]
  clear hI hu g0 g3 g4 g5 g6 g7 g35 g36 g37 s0 s3 s4 s5 s6 s7 s35 s36 s37
  refine round w B c l p _ _ _ _ _ HC HBA hlb u k now n L v wr _ ?_ hk2 hnk hw0 hw1 (Lib.hid HW)
  intro a2 w4 hs hd hB
  obtain ⟨u2, rfl, -⟩ := laid a2 hs hd
  rename_i K1 hK1 zz
  show K1 _ w4
  refine hK1 _ _ ?_
  go_wp2_with fail
  go_ret
  exact ⟨rfl, hB⟩
end Go.Proofs.Ytgdboikoejodpaa.LossWhole

