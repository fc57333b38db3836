/- Drop: a space is given up. -/
import Derived.Test.YtgdboikoejodpaaLedSp
namespace Go.Proofs.Ytgdboikoejodpaa.Drop
open Go Go.RowKit Go.Proofs.YtgdboikoejodpaaW.PrintWords Go.Proofs.YtgdboikoejodpaaW.PrintLast Go.Proofs.YtgdboikoejodpaaW.PrintMore Go.Proofs.Ytgdboikoejodpaa.Keep Go.Proofs.Ytgdboikoejodpaa.Led Go.Proofs.Ytgdboikoejodpaa.Rate Go.Proofs.Ytgdboikoejodpaa.Rd Go.Proofs.Ytgdboikoejodpaa.Timer Go.Proofs.Ytgdboikoejodpaa.LedSp
attribute [local go_sem] max2_int min2_int max_two min_two max_three min_three max_four min_four
set_option linter.unusedVariables false

theorem row_slice' {w : World} {base : Nat} {A : Option Addr} {n c : Nat} {l : List S} (h : RS w base (.slice A n c) l) : Kd.C kS w A l.length l := by
  obtain ⟨A', c', e, hc⟩ := row_slice h
  injection e with e1 e2 e3
  subst e1
  exact hc
theorem rdS_mem {l : List S} {k : Nat} (h : k < l.length) : rdS l (k : Int) ∈ l := by rw [rdS_in h]; exact List.getElem_mem h
set_option maxHeartbeats 2000000 in
theorem drop_calls {w : World} {p base : Nat} {L : Lg} {v : Nat → Value} (h : Led w p base L v) (hb : LgB L) (i : Nat) (hi : i < 3) (hf : sumS (L.sp i).list ≤ L.r.flight) :
    Calls Try.prog 17 #[.pointer (some ⟨p, 0, none⟩), .int .i64 (i : Int)] w fun e w' => e = .returned (.tuple #[]) ∧ Led w' p base (dropL i L) (setV v i (.slice none 0 0)) ∧ Kp p w w' := by
  obtain ⟨k0, k1, k2, k3⟩ := sp_cells h i hi
  obtain ⟨A, c, ev, hC⟩ := row_slice (h.row i hi)
  have i0 : ((i : Int) < 0) = False := eq_false (by omega)
  have i1 : ((i : Int) ≥ 3) = False := eq_false (by omega)
  rw [ev] at k0
  obtain ⟨l, hl⟩ : ∃ l, (L.sp i).list = l := ⟨_, rfl⟩
  rw [hl] at k0 hC hf
  have hlb : ∀ x ∈ l, 0 ≤ x.pn ∧ x.pn < 4611686018427387904 ∧ 0 ≤ x.time ∧ x.time ≤ 1099511627776 ∧ 0 ≤ x.size ∧ x.size ≤ 1200 := hl ▸ hb.list i hi
  have hlm : l.length ≤ 1024 := hl ▸ hb.many i hi
  have hrow : RS w base (.slice A l.length c) l := by have := h.row i hi; rw [ev, hl] at this; exact this
  obtain ⟨f0, f1⟩ := hb.r.fl
  have HL := Lib.hid h
  have HLL := Lib.hid hl
  have HB := Lib.hid hlb
  have HF := Lib.hid hf
  have HR := Lib.hid hrow
  have HN : Hid ((Value.slice A l.length c).ownBlock ≠ some p) := by have := h.row_ne i hi; rw [ev, hl] at this; exact Lib.hid this
  clear h hb hlb hl hf hrow ev hC
  go_enter Try.func17, Try.ntmps17
  go_wp2_with fail
  go_loopw [24] (fun j wr => ∃ k : Nat, k ≤ l.length ∧ j = .int .i64 (k : Int) ∧ Hid (Led wr p base { L with r := { L.r with flight := L.r.flight - sumS (l.take k) } } v) ∧ Hid (Kp p w wr) ∧ Hid (RS wr base (.slice A l.length c) l)) (fun j _ => l.length - (intOf j).toNat)
  case atStart => exact ⟨0, by omega, rfl, Lib.hid (by simpa [sumS] using HL.out), Lib.hid (Kp.refl _ _), HR⟩
  case round =>
    obtain ⟨k, hk, rfl, HLr, HKr, HRr⟩ := hrel
    by_cases hkl : k < l.length
    · obtain ⟨A', eA, j0, j1, j2, j3, j4⟩ := at_S (row_slice' HRr.out) k hkl
      subst eA
      have hx := HB.out _ (rdS_mem hkl)
      have hs1 := sumS_take l k hkl
      have hs2 := sumS_split l (k + 1)
      have hs3 := sumS_nonneg (l := l.drop (k + 1)) (fun x hx => (HB.out x (List.mem_of_mem_drop hx)).2.2.2.2.1)
      have hs4 := sumS_nonneg (l := l.take k) (fun x hx => (HB.out x (List.mem_of_mem_take hx)).2.2.2.2.1)
      have hf := HF.out
      obtain ⟨x, hxe⟩ : ∃ x, rdS l (k : Int) = x := ⟨_, rfl⟩
      rw [hxe] at j0 j1 j2 j3 j4 hx hs1
      obtain ⟨-, -, x0, x1, x2, x3⟩ := hx
      obtain ⟨S0, hS0⟩ : ∃ s, sumS (l.take k) = s := ⟨_, rfl⟩
      rw [hS0] at hs1 hs4
      have HLr' : Hid (Led wr p base { L with r := { L.r with flight := L.r.flight - S0 } } v) := by rw [← hS0]; exact HLr
      go_upto_region 4 with fail
      have B := (Below.refl wr.heap.size wr).alloc (Nat.le_refl _) (.cells #[.int .u64 x.pn, .int .u64 x.time, .int .u64 x.size, .bool x.asks, .slice x.fa x.fn x.fc] 30)
      have hk9 := sent_cells (w := wr) x 30
      have L9 := HLr'.out.below B
      have R9 := RS_move HRr.out (fun b hb => B.block b (RS_bound HRr.out b hb).2)
      have K9 := HKr.out.trans (Kp.of_below B)
      obtain ⟨w9, hw9⟩ : ∃ w9, wr.alloc (.cells #[.int .u64 x.pn, .int .u64 x.time, .int .u64 x.size, .bool x.asks, .slice x.fa x.fn x.fc] 30) = w9 := ⟨_, rfl⟩
      rw [hw9] at hk9 L9 R9 K9 ⊢
      have HL9 := Lib.hid L9
      have HR9 := Lib.hid R9
      have HK9 := Lib.hid K9
      clear L9 R9 K9 B hw9 j0 j1 j2 j3 j4
      obtain ⟨k0, k1, k2, k3, k4, k5, k6⟩ := rate_cells HL9.out
      clear k0 k1 k2 k3 k4 k6
      have j2 := blk_cell hk9 2
      have z5 := sp_frozen HL9.out 5
      have hwr : IntKind.u64.wrap (L.r.flight - S0 - x.size) = L.r.flight - S0 - x.size := by rw [IntKind.wrap_u64]; omega
      simp only at k5
      go_region
      go_wp2_with fail
      refine ⟨⟨k + 1, by omega, by simp, ?_, Lib.hid (kp_drew (HK9.out.set 5 _)), ?_⟩, by simp [intOf]; omega⟩
      · have e : sumS (l.take (k + 1)) = S0 + x.size := hs1
        have L10 := led_drew (putFlight HL9.out (L.r.flight - S0 - x.size))
        rw [e, show L.r.flight - (S0 + x.size) = L.r.flight - S0 - x.size by omega]
        exact Lib.hid L10
      · refine Lib.hid (RS_move HR9.out (fun b hb => ?_))
        exact Below.heap_setCell w9 ⟨p, 5, none⟩ _ b (fun e => HN.out (by rw [hb, e]))
    · have e : k = l.length := by omega
      subst e
      obtain ⟨k0, k1, k2, k3⟩ := sp_cells HLr.out i hi
      have z0 := sp_frozen HLr.out (7 + i * 4)
      have z1 := sp_frozen HLr.out (7 + i * 4 + 1)
      have z2 := sp_frozen HLr.out (7 + i * 4 + 2)
      have z3 := sp_frozen HLr.out (7 + i * 4 + 3)
      go_upto_region 6 with fail
      go_region
      have L1 := led_drew (putTimeout (putAcked (putNext (layList HLr.out i hi (.slice none 0 0) [] (Kd.R_nil _ _ _ _ _) (fun h => nomatch h) (fun _ _ _ _ h => nomatch h)) i hi (L.sp i).next) i hi (L.sp i).acked) i hi 0)
      have K1 := kp_drew ((((HKr.out.set (7 + i * 4) (.slice none 0 0)).set (7 + i * 4 + 1) (.int .u64 (L.sp i).next)).set (7 + i * 4 + 2) (.int .u64 (L.sp i).acked)).set (7 + i * 4 + 3) (.int .u64 0))
      have HL1 := Lib.hid L1
      have HK1 := Lib.hid K1
      clear L1 K1 k0 k1 k2 k3 z0 z1 z2 z3
      generalize ((((wr.setCell ⟨p, 7 + i * 4, none⟩ (.slice none 0 0)).setCell ⟨p, 7 + i * 4 + 1, none⟩ (.int .u64 (L.sp i).next)).setCell ⟨p, 7 + i * 4 + 2, none⟩ (.int .u64 (L.sp i).acked)).setCell ⟨p, 7 + i * 4 + 3, none⟩ (.int .u64 0)).drew = w5 at HL1 HK1 ⊢
      obtain ⟨k4, k5⟩ := end_cells HL1.out
      have z4 := sp_frozen HL1.out 19
      go_wp2_with fail
      go_end0
      refine ⟨rfl, ?_, HK1.out.set 19 _⟩
      have L2 := putTries HL1.out 0
      rw [List.take_length] at L2
      have e : ∀ La Lb : Lg, La = Lb → Led (w5.setCell ⟨p, 19, none⟩ (.int .i64 0)) p base La (setV v i (.slice none 0 0)) → Led (w5.setCell ⟨p, 19, none⟩ (.int .i64 0)) p base Lb (setV v i (.slice none 0 0)) := fun _ _ e h => e ▸ h
      refine e _ _ ?_ L2
      unfold dropL
      simp only [setSp_setSp, setSp_same, HLL.out]
end Go.Proofs.Ytgdboikoejodpaa.Drop
