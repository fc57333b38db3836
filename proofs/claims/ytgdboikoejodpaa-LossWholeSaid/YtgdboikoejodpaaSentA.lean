/- Sent: a packet that asks. -/
import Derived.Test.YtgdboikoejodpaaSent
namespace Go.Proofs.Ytgdboikoejodpaa.Sent
open Go Go.RowKit Go.Proofs.YtgdboikoejodpaaW.PrintWords Go.Proofs.YtgdboikoejodpaaW.PrintLast Go.Proofs.YtgdboikoejodpaaW.PrintMore Go.Proofs.Ytgdboikoejodpaa.Keep Go.Proofs.Ytgdboikoejodpaa.Led Go.Proofs.Ytgdboikoejodpaa.Rate Go.Proofs.Ytgdboikoejodpaa.Rd Go.Proofs.Ytgdboikoejodpaa.Timer Go.Proofs.Ytgdboikoejodpaa.LedSp Go.Proofs.Ytgdboikoejodpaa.Drop Go.Proofs.Ytgdboikoejodpaa.In Go.Proofs.Ytgdboikoejodpaa.Split Go.Proofs.Ytgdboikoejodpaa.Clone
attribute [local go_sem] max2_int min2_int max_two min_two max_three min_three max_four min_four
set_option linter.unusedVariables false

theorem RF_bound {w : World} {base : Nat} {v : Value} {l : List F} (h : RF w base v l) (k : Nat) (hk : v.ownBlock = some k) : base ≤ k ∧ k < w.heap.size := by
  obtain ⟨inner, ho⟩ := Kd.R_own h
  exact ⟨own_base ho k hk, own_lt ho k hk⟩
theorem RF_move {w w' : World} {base : Nat} {v : Value} {l : List F} (h : RF w base v l) (hb : ∀ k, v.ownBlock = some k → w'.heap[k]? = w.heap[k]?) : RF w' base v l := by
  obtain ⟨h0, inner, ho, hr⟩ := h
  exact ⟨h0, inner, own_move ho hb, hr.imp_ (fun _ _ hp => hp)⟩
/-- A ledger whose list i has grown, behind the store. -/
theorem Led.grow {w W : World} {p base : Nat} {L : Lg} {v : Nat → Value} (h : Led w p base L v) (i : Nat) (hi : i < 3) (u : Value) (l : List S) (hk : KL (fun k => (v i).ownBlock = some k) w W) (hr : RS W base u l) (hn : u.ownBlock = (v i).ownBlock ∨ ∃ b, u.ownBlock = some b ∧ w.heap.size ≤ b) :
    Led (W.setCell ⟨p, 7 + i * 4, none⟩ u) p base (setSp L i { L.sp i with list := l }) (setV v i u) := by
  have hb := blk_set (hk.blk h.blk (h.row_ne i hi)) (7 + i * 4) u
  have far : ∀ k, k ≠ p → (W.setCell ⟨p, 7 + i * 4, none⟩ u).heap[k]? = W.heap[k]? := fun k hk => Below.heap_setCell W ⟨p, 7 + i * 4, none⟩ u k hk
  have hup : u.ownBlock ≠ some p := by
    rcases hn with h1 | ⟨b, h1, h2⟩
    · rw [h1]; exact h.row_ne i hi
    · rw [h1]; intro e; injection e with e; have := blk_lt h.blk; omega
  have ap : ∀ k, k < 3 → k ≠ i → ∀ b, u.ownBlock = some b → (v k).ownBlock ≠ some b := by
    intro k hk3 hki b e e2
    rcases hn with h1 | ⟨b', h1, h2⟩
    · rw [h1] at e; exact h.apart i k hi hk3 (Ne.symm hki) b e e2
    · rw [h1] at e; injection e with e; have := (h.own_base b (.inr ⟨k, hk3, e2⟩)).2; omega
  refine ⟨?_, fun k hk3 => ?_, fun a b ha' hb' hab kk hkk => ?_, h.hp⟩
  · rw [hb]
    rcases three hi with rfl | rfl | rfl <;> simp [Lg.cells, setSp, setV]
  · by_cases e : k = i
    · subst e
      rw [setV_same, setSp_same]
      exact RS_move hr (fun b hb2 => far b (fun e => hup (by rw [hb2, e])))
    · rw [setV_other _ _ _ _ e, setSp_other _ _ _ _ e]
      refine RS_move (h.row k hk3) (fun b hb2 => (far b (fun e2 => h.row_ne k hk3 (by rw [hb2, e2]))).trans (hk.block b (h.own_base b (.inr ⟨k, hk3, hb2⟩)).2 (fun e2 => h.apart i k hi hk3 (Ne.symm e) b e2 hb2)))
  · by_cases ea : a = i
    · subst ea
      rw [setV_same] at hkk
      rw [setV_other _ _ _ _ (Ne.symm hab)]
      exact ap b hb' (Ne.symm hab) kk hkk
    · rw [setV_other _ _ _ _ ea] at hkk
      by_cases eb : b = i
      · subst eb
        rw [setV_same]
        exact fun h2 => ap a ha' ea kk h2 hkk
      · rw [setV_other _ _ _ _ eb]
        exact h.apart a b ha' hb' hab kk hkk
/-- A box of one packet as a list of one. -/
theorem C_box {W : World} {b : Nat} (y : S) (h : W.heap[b]? = some (.cells #[.int .u64 y.pn, .int .u64 y.time, .int .u64 y.size, .bool y.asks, .slice y.fa y.fn y.fc] 30 (0, 0))) : Kd.C kS W (some ⟨b, 0, none⟩) 1 [y] := by
  refine ⟨rfl, by decide, fun _ => ⟨_, rfl, fun j q hj => ?_⟩⟩
  cases j with
  | succ j => simp at hj
  | zero =>
    simp at hj
    subst hj
    refine ⟨y.cells, rfl, rfl, fun k u hu => ?_⟩
    have hk : k < 5 := by
      have := (List.getElem?_eq_some_iff.1 hu).1
      exact this
    have : k = 0 ∨ k = 1 ∨ k = 2 ∨ k = 3 ∨ k = 4 := by omega
    rcases this with rfl | rfl | rfl | rfl | rfl <;> (simp [S.cells] at hu; subst hu; exact blk_cell h _)
section
variable {ops : Array Oper} {o : Oper} {a : Act} {Q : Exit → Act → World → Prop} {Kc : Act → World → Prop}
theorem appS_step {W w0 : World} (base : Nat) (hw : Region.wanted o (yielded ops a.tmps) = true) (s x : Operand) (ho : o.op = .call { callee := .builtin .append, args := #[s, x], argTypes := #[31, 31] })
    {v : Value} {xs : List S} {y : S} {b : Nat} (HO : RS W base v xs) (hs : a.eval s = v) (hx : a.eval x = .slice (some ⟨b, 0, none⟩) 1 1) (HR : Kd.C kS W (some ⟨b, 0, none⟩) 1 [y]) (hB : Below base w0 W) (hbase : base ≤ W.heap.size)
    (hl : xs.length + 1 ≤ 1000000)
    (h : ∀ v1 w1, RS w1 base v1 (xs ++ [y]) → Below base w0 w1 → W.grownBy w1 v.ownBlock → (v1.ownBlock = v.ownBlock ∨ ∃ b, v1.ownBlock = some b ∧ W.heap.size ≤ b) → Kc (a.put o.dst v1) w1) : if Region.wanted o (yielded ops a.tmps) = true then Oper.wp Try.prog o a W Kc Q else Kc (a.put o.dst undef) W :=
  Kd.R_append_rows_step kS (w0 := w0) base hw s x 31 30 (.agg #[.int .u64 0, .int .u64 0, .int .u64 0, .bool false, .slice none 0 0]) 56 ho Try.underlying31 infoS rfl (by decide) (by decide) v xs [y] (some ⟨b, 0, none⟩) 1 1 (fun _ => True) (fun _ => False) hs hx HO HR (fun _ _ hh => hh) (fun _ hk => hk.elim) (fun _ _ => trivial) hB hbase (by omega) h
end
theorem CR_block {w w' : World} {A : Option Addr} {n : Nat} {xs : List F} (h : Kd.C kR w A n xs) (hb : ∀ a, A = some a → 0 < n → w'.heap[a.block]? = w.heap[a.block]?) : Kd.C kR w' A n xs := by
  refine ⟨h.1, h.2.1, fun hn => ?_⟩
  obtain ⟨ad, e, hc⟩ := h.2.2 hn
  refine ⟨ad, e, fun j p hj => ?_⟩
  obtain ⟨c, hs, hr, hcell⟩ := hc j p hj
  refine ⟨c, hs, hr, fun i u hu => ?_⟩
  have e1 : (ad.add (j * kR.sz + i)).block = ad.block := by unfold Addr.add; split <;> rfl
  rw [World.cell?_of_block (w := w) (by rw [e1]; exact hb ad e hn)]
  exact hcell i u hu

set_option maxHeartbeats 4000000 in
set_option maxRecDepth 100000 in
theorem sent_asks {w : World} {p base : Nat} {L : Lg} {v : Nat → Value} (h : Led w p base L v) (i : Nat) (hi : i < 3) (x : S) (hu : uk x) (hb : ¬ bad (i : Int) x) (hn : (L.sp i).next ≤ x.pn) (hf : (L.sp i).list.length < 1024) (ha : x.asks = true)
    (hfl : 0 ≤ L.r.flight ∧ L.r.flight ≤ 1125899906842624) (hla : 0 ≤ L.last ∧ L.last ≤ 1099511627776)
    (fr : List F) (hfn : x.fn = fr.length) (hfc : Kd.C kR w x.fa fr.length fr) (hfm : fr.length ≤ 1000000) (hfp : ∀ a, x.fa = some a → 0 < fr.length → a.block < w.heap.size ∧ a.block ≠ p) :
    Calls Try.prog 12 #[.pointer (some ⟨p, 0, none⟩), .int .i64 (i : Int), argS x] w fun e w' => e = .returned (.int .i64 0) ∧ ∃ A' c' v',
      Led w' p base { setSp { L with r := { L.r with flight := L.r.flight + x.size } } i { L.sp i with list := (L.sp i).list ++ [⟨x.pn, x.time, x.size, true, A', fr.length, c'⟩], next := x.pn + 1 } with last := mx L.last x.time } (setV v i v') ∧
      RF w' w.heap.size (.slice A' fr.length c') fr ∧ (v'.ownBlock = (v i).ownBlock ∨ ∃ b, v'.ownBlock = some b ∧ w.heap.size ≤ b) ∧ KL (fun k => k = p ∨ (v i).ownBlock = some k) w w' ∧ (x.fa = none → A' = none ∧ c' = 0) := by
  have B := (Below.refl w.heap.size w).alloc (Nat.le_refl _) (.cells #[.int .u64 x.pn, .int .u64 x.time, .int .u64 x.size, .bool x.asks, .slice x.fa x.fn x.fc] 30)
  have HK := Lib.hid (sent_cells (w := w) x 30)
  have HB := Lib.hid B
  clear B
  obtain ⟨u1, u2, u3, u4, u5, u6⟩ := hu
  have i0 : ((i : Int) < 0) = False := eq_false (by omega)
  have i1 : ((i : Int) ≥ 3) = False := eq_false (by omega)
  unfold bad at hb
  have hb1 : ¬ 1099511627776 < x.time := by omega
  have hb2 : ¬ 1200 < x.size := by omega
  have hb3 : ¬ 4611686018427387903 < x.pn := by omega
  clear hb
  have HL := Lib.hid (h.below HB.out)
  obtain ⟨nx, hnx⟩ : ∃ n, (L.sp i).next = n := ⟨_, rfl⟩
  rw [hnx] at hn
  have hd : decide (x.pn < nx) = false := by simp; omega
  have HNX := Lib.hid hnx
  obtain ⟨A, c, ev, -⟩ := row_slice (h.row i hi)
  obtain ⟨l0, hl0⟩ : ∃ l, (L.sp i).list = l := ⟨_, rfl⟩
  rw [hl0] at ev hf
  have HEV := Lib.hid ev
  have HL0 := Lib.hid hl0
  have hpl := blk_lt h.blk
  have hne : w.heap.size ≠ p := by omega
  have hwp : IntKind.u64.wrap (x.pn + 1) = x.pn + 1 := by rw [IntKind.wrap_u64]; omega
  have HA := Lib.hid ha
  have HFN := Lib.hid hfn
  have HFP := Lib.hid hfp
  have HFC := Lib.hid hfc
  have HH := Lib.hid h
  clear h hnx ev hl0 ha hfn hfp hfc
  go_enter Try.func12, Try.ntmps12
  go_upto_region 1 with fail
  generalize w.alloc (.cells #[.int .u64 x.pn, .int .u64 x.time, .int .u64 x.size, .bool x.asks, .slice x.fa x.fn x.fc] 30) = w1 at HK HB HL ⊢
  have q0 := blk_cell HK.out 0
  have q1 := blk_cell HK.out 1
  have q2 := blk_cell HK.out 2
  obtain ⟨k0, k1, k2, k3⟩ := sp_cells HL.out i hi
  have q3 := blk_cell HK.out 3
  have z1 := sp_frozen HL.out (7 + i * 4 + 1)
  rw [HNX.out] at k1
  rw [HEV.out] at k0
  rw [HA.out] at q3
  clear k2 k3
  go_wp2_with fail
  go_quiet (fail)
  go_upto_region 11 with fail
  have HL2 := Lib.hid (putNext (led_drewN HL.out nq) i hi (x.pn + 1))
  have HK2 := Lib.hid ((Below.heap_setCell (w1.drewN nq) ⟨p, 7 + i * 4 + 1, none⟩ (.int .u64 (x.pn + 1)) w.heap.size (fun e => hne e)).trans HK.out)
  have HKp2 := Lib.hid (((Kp.of_below (p := p) HB.out).drewN nq).set (7 + i * 4 + 1) (.int .u64 (x.pn + 1)))
  generalize (w1.drewN nq).setCell ⟨p, 7 + i * 4 + 1, none⟩ (.int .u64 (x.pn + 1)) = w2 at HL2 HK2 HKp2 ⊢
  clear q0 q1 q2 q3 z1 k0 k1 HL HK HB hd
  have q3 := blk_cell HK2.out 3
  have q4 := blk_cell HK2.out 4
  have z4 := blk_frozen HK2.out 4
  rw [HA.out] at q3
  have CF := cloneF_calls x.fa x.fc fr (CR_block HFC.out (w' := w2) (fun a e hn => HKp2.out.block a.block (HFP.out a e hn).1 (HFP.out a e hn).2)) hfm
  rw [← HFN.out] at CF
  have HCF := Lib.hid CF
  clear CF
  go_wp2_with fail
  refine HCF.out.mono ?_
  rintro e w3 ⟨u, rfl, R3, B3, N3⟩
  obtain ⟨A3, c3, e3, -, -⟩ := Kd.R_reads R3
  subst e3
  have HN3 : Hid (x.fa = none → A3 = none ∧ c3 = 0) := Lib.hid (fun h => by have e := N3 h; injection e with e1 e2 e3; exact ⟨e1, e3⟩)
  clear N3
  have hK3 := blk_below HK2.out B3
  have f4 := blk_frozen hK3 4
  have c4 := blk_cell hK3 4
  have HL3 := Lib.hid (HL2.out.below B3)
  have HK3 := Lib.hid hK3
  have HR3 := Lib.hid R3
  have HKp3 := Lib.hid (HKp2.out.trans (Kp.of_below B3))
  have hsz2 := HKp2.out.size
  clear hK3 R3 B3 q3 q4 z4 HCF
  go_upto_region 13 with fail
  obtain ⟨y, hy⟩ : ∃ y : S, (⟨x.pn, x.time, x.size, true, A3, fr.length, c3⟩ : S) = y := ⟨_, rfl⟩
  have hb5 := blk_set HK3.out 4 (.slice A3 fr.length c3)
  have fr5 : ∀ k, k ≠ w.heap.size → (w3.setCell ⟨w.heap.size, 4, none⟩ (.slice A3 fr.length c3)).heap[k]? = w3.heap[k]? := fun k hk => Below.heap_setCell w3 ⟨w.heap.size, 4, none⟩ _ k hk
  have hL5 := HL3.out.stays (w' := w3.setCell ⟨w.heap.size, 4, none⟩ (.slice A3 fr.length c3)) (fun k hk => fr5 k (fun e => by
    rcases hk with rfl | ⟨j, hj, e2⟩
    · exact hne e.symm
    · subst e; have := (HH.out.own_base _ (.inr ⟨j, hj, e2⟩)).2; omega))
  have HL5 := Lib.hid hL5
  have HB5 : Hid ((w3.setCell ⟨w.heap.size, 4, none⟩ (.slice A3 fr.length c3)).heap[w.heap.size]? = some (.cells #[.int .u64 y.pn, .int .u64 y.time, .int .u64 y.size, .bool y.asks, .slice y.fa y.fn y.fc] 30 (0, 0))) := by
    rw [← hy]
    have h9 := hb5
    rw [HA.out] at h9
    exact Lib.hid h9
  have HK5 : Hid (KL (fun k => k = p ∨ (v i).ownBlock = some k) w (w3.setCell ⟨w.heap.size, 4, none⟩ (.slice A3 fr.length c3))) := Lib.hid ⟨HKp3.out.os, HKp3.out.tape, HKp3.out.output, by simpa using HKp3.out.size, fun k hk hn => (fr5 k (by omega)).trans (HKp3.out.block k hk (fun e => hn (.inl e)))⟩
  have HR5 := Lib.hid (show RF (w3.setCell ⟨w.heap.size, 4, none⟩ (.slice A3 fr.length c3)) w.heap.size (.slice A3 fr.length c3) fr from RF_move (Kd.R_lower HR3.out hsz2) (fun k hk => fr5 k (by have := (RF_bound HR3.out k hk).1; have h8 := (blk_lt HK2.out); omega)))
  have hsz5 : (w3.setCell ⟨w.heap.size, 4, none⟩ (.slice A3 fr.length c3)).heap.size = w3.heap.size := by simp
  generalize w3.setCell ⟨w.heap.size, 4, none⟩ (.slice A3 fr.length c3) = w5 at HL5 HB5 HK5 HR5 hsz5 ⊢
  clear hL5 hb5 fr5 f4 c4
  obtain ⟨L5, hL5⟩ : ∃ L5, setSp L i { L.sp i with next := x.pn + 1 } = L5 := ⟨_, rfl⟩
  rw [hL5] at HL5
  obtain ⟨vi, hvi⟩ : ∃ vi, v i = vi := ⟨_, rfl⟩
  have HRW : Hid (RS w5 base vi l0) := Lib.hid (by have := HL5.out.row i hi; rw [hvi, ← hL5, setSp_same] at this; rw [← HL0.out]; exact this)
  have HC7 : Hid (∀ W, KL (fun k => vi.ownBlock = some k) w5 W → W.cell? ⟨p, 7 + i * 4, none⟩ = some vi) := Lib.hid (fun W hG => by
    have := (sp_cells HL5.out i hi).1
    rw [hvi] at this
    rw [World.cell?_of_block (hG.block p (blk_lt HL5.out.blk) (by rw [← hvi]; exact HL5.out.row_ne i hi))]
    exact this)
  have HNE : Hid (¬ vi.ownBlock = some w.heap.size) := Lib.hid (fun e => by have := (HH.out.own_base _ (.inr ⟨i, hi, by rw [hvi]; exact e⟩)).2; omega)
  have HNP : Hid (¬ vi.ownBlock = some p) := Lib.hid (by rw [← hvi]; exact HL5.out.row_ne i hi)
  have HOV : Hid (∀ b, vi.ownBlock = some b → b < w5.heap.size) := Lib.hid (fun b e => (HL5.out.own_base b (.inr ⟨i, hi, by rw [hvi]; exact e⟩)).2)
  have HBS : Hid (base ≤ w5.heap.size) := Lib.hid (Nat.le_trans HL5.out.hp (Nat.le_of_lt (blk_lt HL5.out.blk)))
  have HRFX : Hid (∀ W, KL (fun k => k = p ∨ vi.ownBlock = some k) w5 W → RF W w.heap.size (.slice A3 fr.length c3) fr) := Lib.hid (fun W hK => RF_move HR5.out (fun k hk => hK.block k (RF_bound HR5.out k hk).2 (fun e => by
    have h1 := (RF_bound HR5.out k hk).1
    rcases e with e | e
    · omega
    · have := (HH.out.own_base k (.inr ⟨i, hi, by rw [hvi]; exact e⟩)).2; omega)))
  have HLN : Hid (l0.length + 1 ≤ 1000000) := Lib.hid (by omega)
  have HVI := Lib.hid hvi
  have HL5e := Lib.hid hL5
  have HY := Lib.hid hy
  clear hL5 hvi hy HKp2 HK2 HL2 HL3 HK3 HR3 HKp3
  refine Flow.wp_region_lit_last [71, 72, 73, 74, 75, 76, 77, 78, 79, 80] (by kernel_rfl) (fun jj W v => match jj with | 0 => v = .pointer (some ⟨p, 7 + i * 4, none⟩) | 1 => v = .pointer (some ⟨p, 7 + i * 4, none⟩) | 2 => v = .pointer (some ⟨p, 7 + i * 4, none⟩) | 3 => v = .pointer (some ⟨p, 7 + i * 4, none⟩) | 4 => v = vi | 5 => v = argS y | 6 => ∃ b, v = .slice (some ⟨b, 0, none⟩) 1 1 ∧ w5.heap.size ≤ b ∧ W.heap[b]? = some (.cells #[.int .u64 y.pn, .int .u64 y.time, .int .u64 y.size, .bool y.asks, .slice y.fa y.fn y.fc] 30 (0, 0)) | 7 => RS W base v (l0 ++ [y]) ∧ (v.ownBlock = vi.ownBlock ∨ ∃ b, v.ownBlock = some b ∧ w5.heap.size ≤ b) | 8 => v = .pointer (some ⟨p, 7 + i * 4, none⟩) | 9 => v = .pointer (some ⟨p, 7 + i * 4, none⟩) | 10 => True | _ => True) (fun W => KL (fun k => vi.ownBlock = some k) w5 W) 10 (fun W => ∃ v8, Led W p base (setSp L5 i { L5.sp i with list := l0 ++ [y] }) (setV v i v8) ∧ (v8.ownBlock = vi.ownBlock ∨ ∃ b, v8.ownBlock = some b ∧ w5.heap.size ≤ b) ∧ KL (fun k => k = p ∨ vi.ownBlock = some k) w5 W) 7 (fun W => RS W base vi l0) (by kernel_rfl) (by kernel_rfl) (by kernel_rfl) (by kernel_rfl) (by kernel_rfl) (by decide) (KL.drew (KL.refl _ w5)) (RS_move HRW.out (fun _ _ => rfl)) ?_ ?_ ?_
  · intro i o ho hz a W hG hL hk hdep
    have hi : i < 11 := (Array.getElem?_eq_some_iff.1 ho).1
    have hz : i ≠ 10 := hz
    rcases (by omega : i = 0 ∨ i = 1 ∨ i = 2 ∨ i = 3 ∨ i = 4 ∨ i = 5 ∨ i = 6 ∨ i = 7 ∨ i = 8 ∨ i = 9) with rfl | rfl | rfl | rfl | rfl | rfl | rfl | rfl | rfl | rfl
    · obtain rfl := Option.some.inj ho
      have e7 : a.tmps.getD 7 undef = .pointer (some ⟨p, 7 + i * 4, none⟩) := hk 7 (by kernel_rfl)
      clear hL
      refine Flow.op_want rfl rfl (fun K hK => ?_)
      clear hdep hk ho
      go_simp
      exact hK _ _ ⟨_, rfl, hG, rfl, fun _ _ _ h => h, fun _ h => h⟩
    · obtain rfl := Option.some.inj ho
      have e7 : a.tmps.getD 7 undef = .pointer (some ⟨p, 7 + i * 4, none⟩) := hk 7 (by kernel_rfl)
      clear hL
      refine Flow.op_want rfl rfl (fun K hK => ?_)
      clear hdep hk ho
      go_simp
      exact hK _ _ ⟨_, rfl, hG, rfl, fun _ _ _ h => h, fun _ h => h⟩
    · obtain rfl := Option.some.inj ho
      have e72 : a.tmps.getD 72 undef = .pointer (some ⟨p, 7 + i * 4, none⟩) := hdep 1 72 (by kernel_rfl)
      clear hL
      refine Flow.op_want rfl rfl (fun K hK => ?_)
      clear hdep hk ho
      go_simp
      exact hK _ _ ⟨_, rfl, hG, rfl, fun _ _ _ h => h, fun _ h => h⟩
    · obtain rfl := Option.some.inj ho
      have e73 : a.tmps.getD 73 undef = .pointer (some ⟨p, 7 + i * 4, none⟩) := hdep 2 73 (by kernel_rfl)
      clear hL
      refine Flow.op_want rfl rfl (fun K hK => ?_)
      clear hdep hk ho
      go_simp
      exact hK _ _ ⟨_, rfl, hG, rfl, fun _ _ _ h => h, fun _ h => h⟩
    · obtain rfl := Option.some.inj ho
      have e74 : a.tmps.getD 74 undef = .pointer (some ⟨p, 7 + i * 4, none⟩) := hdep 3 74 (by kernel_rfl)
      have c := HC7.out W hG
      clear hL
      refine Flow.op_want rfl rfl (fun K hK => ?_)
      clear hdep hk ho
      go_simp
      exact hK _ _ ⟨_, rfl, hG, rfl, fun _ _ _ h => h, fun _ h => h⟩
    · obtain rfl := Option.some.inj ho
      have e5 : a.tmps.getD 5 undef = .pointer (some ⟨w.heap.size, 0, none⟩) := hk 5 (by kernel_rfl)
      have hb9 := hG.blk HB5.out HNE.out
      have c0 := blk_cell hb9 0
      have c1 := blk_cell hb9 1
      have c2 := blk_cell hb9 2
      have c3 := blk_cell hb9 3
      have c4 := blk_cell hb9 4
      clear hL
      refine Flow.op_want rfl rfl (fun K hK => ?_)
      clear hdep hk ho
      go_simp
      exact hK _ _ ⟨_, rfl, hG, rfl, fun _ _ _ h => h, fun _ h => h⟩
    · obtain rfl := Option.some.inj ho
      have e76 : a.tmps.getD 76 undef = argS y := hdep 5 76 (by kernel_rfl)
      rw [Array.getD_eq_getD_getElem?] at e76
      refine Flow.op_want rfl rfl (fun K hK => ?_)
      clear hdep hk ho hL
      go_simp
      refine hK _ _ ⟨_, rfl, ⟨hG.os, hG.tape, hG.output, Nat.le_trans hG.size (by simp), fun k h1 h2 => (heap_alloc_old W _ (Nat.lt_of_lt_of_le h1 hG.size)).trans (hG.block k h1 h2)⟩, ⟨W.heap.size, rfl, hG.size, heap_alloc_new _ _⟩, ?_, fun _ h => Kd.R_alloc h _⟩
      intro j u hj
      split <;> intro h <;> first | exact h | exact absurd rfl hj.1 | (obtain ⟨b, e, h1, h2⟩ := h; exact ⟨b, e, h1, blk_below h2 (below_alloc (Below.refl _ _) _)⟩) | (obtain ⟨h1, h2⟩ := h; exact ⟨Kd.R_alloc h1 _, h2⟩)
    · obtain rfl := Option.some.inj ho
      have e75 : a.tmps.getD 75 undef = vi := hdep 4 75 (by kernel_rfl)
      have e77 : (fun (W : World) (v : Value) => ∃ b, v = .slice (some ⟨b, 0, none⟩) 1 1 ∧ w5.heap.size ≤ b ∧ W.heap[b]? = some (.cells #[.int .u64 y.pn, .int .u64 y.time, .int .u64 y.size, .bool y.asks, .slice y.fa y.fn y.fc] 30 (0, 0))) W (a.tmps.getD 77 undef) := hdep 6 77 (by kernel_rfl)
      obtain ⟨b, e77, hb1, hb2⟩ := e77
      refine Flow.op_if rfl (fun K hK => appS_step (w0 := W) base rfl (.tmp 75) (.tmp 77) rfl (hL rfl) e75 e77 (C_box y hb2) (Below.refl _ _) (Nat.le_trans HBS.out hG.size) HLN.out ?_)
      intro v1 W1 R1 B1 G1 N1
      refine hK _ _ ⟨v1, rfl, KL.trans hG ⟨G1.os, G1.tape, G1.output, G1.size, fun k h1 h2 => G1.block k h1 (fun e => h2 e.symm)⟩, ⟨R1, ?_⟩, ?_, fun h => absurd rfl h⟩
      · rcases N1 with h | ⟨b', h, h2⟩
        · exact .inl h
        · exact .inr ⟨b', h, Nat.le_trans hG.size h2⟩
      · intro j u hj
        split <;> intro h <;> first | exact h | exact absurd rfl hj.1 | (obtain ⟨b', e, h1, h2⟩ := h; exact ⟨b', e, h1, (G1.block b' (blk_lt h2) (fun e2 => by have := HOV.out b' e2.symm; omega)).trans h2⟩)
    · obtain rfl := Option.some.inj ho
      have e71 : a.tmps.getD 71 undef = .pointer (some ⟨p, 7 + i * 4, none⟩) := hdep 0 71 (by kernel_rfl)
      clear hL
      refine Flow.op_want rfl rfl (fun K hK => ?_)
      clear hdep hk ho
      go_simp
      exact hK _ _ ⟨_, rfl, hG, rfl, fun _ _ _ h => h, fun _ h => h⟩
    · obtain rfl := Option.some.inj ho
      have e79 : a.tmps.getD 79 undef = .pointer (some ⟨p, 7 + i * 4, none⟩) := hdep 8 79 (by kernel_rfl)
      clear hL
      refine Flow.op_want rfl rfl (fun K hK => ?_)
      clear hdep hk ho
      go_simp
      exact hK _ _ ⟨_, rfl, hG, rfl, fun _ _ _ h => h, fun _ h => h⟩
  · intro o ho a W hG hk hdep
    obtain rfl := Option.some.inj ho
    have e78 : (fun (W : World) (v : Value) => RS W base v (l0 ++ [y]) ∧ (v.ownBlock = vi.ownBlock ∨ ∃ b, v.ownBlock = some b ∧ w5.heap.size ≤ b)) W (a.tmps.getD 78 undef) := hdep 7 78 (by kernel_rfl)
    have e80 : a.tmps.getD 80 undef = .pointer (some ⟨p, 7 + i * 4, none⟩) := hdep 9 80 (by kernel_rfl)
    refine Flow.op_want rfl rfl (fun K hK => ?_)
    obtain ⟨R7, N7⟩ := e78
    have fz := blk_frozen (hG.blk HL5.out.blk HNP.out) (7 + i * 4)
    have c := HC7.out W hG
    obtain ⟨A8, c8, e8, -⟩ := row_slice R7
    rw [e8] at R7 N7
    simp only [List.length_append, List.length_cons, List.length_nil, Nat.zero_add] at R7 N7 e8
    clear hdep hk ho
    rw [Array.getD_eq_getD_getElem?] at e8
    go_simp
    refine hK _ _ ⟨undef, rfl, _, Led.grow HL5.out i hi _ _ (by rw [HVI.out]; exact hG) R7 (by rw [HVI.out]; exact N7), N7, ((KL.refl (fun k => k = p ∨ vi.ownBlock = some k) w5).trans' hG (fun i h => .inl (.inr h))).trans (KL.of_kp ((Kp.refl p W).set _ _) (.inl rfl))⟩
  · intro us w9 hE9
    simp only [Flow.lay, List.set_cons_zero, List.set_cons_succ]
    obtain ⟨v8, L8, N8, K8⟩ := hE9
    have eL5 : ∀ s, (setSp L5 i s).r = L.r := fun s => by rw [← HL5e.out]; rfl
    have es : y.size = x.size := by rw [← HY.out]
    have et : y.time = x.time := by rw [← HY.out]
    have hb9 := (K8.blk HB5.out (by intro e; rcases e with e | e; exact hne e; exact HNE.out e))
    rw [es, et] at hb9
    have HB9 := Lib.hid hb9
    obtain ⟨k0, k1, k2, k3, k4, k5, k6⟩ := rate_cells L8
    rw [eL5] at k5
    clear k0 k1 k2 k3 k4 k6
    have z5 := sp_frozen L8 5
    have q2 := blk_cell hb9 2
    have hwf : IntKind.u64.wrap (L.r.flight + x.size) = L.r.flight + x.size := by rw [IntKind.wrap_u64]; omega
    have HL8 := Lib.hid L8
    have HN8 := Lib.hid N8
    have HK8 := Lib.hid K8
    have HE5 := Lib.hid eL5
    clear L8 N8 K8 eL5 es et hb9
    go_upto_region 14 with fail
    go_region
    have LA := led_drew (putFlight HL8.out (L.r.flight + x.size))
    have HLA := Lib.hid LA
    have HKA := Lib.hid (KL.drew (HK8.out.trans (KL.of_kp ((Kp.refl p w9).set 5 (.int .u64 (L.r.flight + x.size))) (.inl rfl))))
    have HBA := Lib.hid (blk_drew ((Below.heap_setCell w9 ⟨p, 5, none⟩ (.int .u64 (L.r.flight + x.size)) w.heap.size (fun e => hne e)).trans HB9.out))
    clear LA k5 z5 q2 HB9
    generalize ((w9.setCell ⟨p, 5, none⟩ (.int .u64 (L.r.flight + x.size))).drew) = w10 at HLA HKA HBA ⊢
    have q1 := blk_cell HBA.out 1
    obtain ⟨k4, k5⟩ := end_cells HLA.out
    have z5 := sp_frozen HLA.out 20
    have hls : (setSp L5 i { L5.sp i with list := l0 ++ [y] }).last = L.last := by rw [← HL5e.out]; rfl
    simp only [hls] at k5
    clear k4
    obtain ⟨l1, l2⟩ := hla
    have HRF : Hid (∀ W, KL (fun k => k = p ∨ vi.ownBlock = some k) w5 W → RF W w.heap.size (.slice A3 fr.length c3) fr) := HRFX
    have fin : ∀ m, m = mx L.last x.time → (Led (w10.setCell ⟨p, 20, none⟩ (.int .u64 m)).drew p base { setSp { L with r := { L.r with flight := L.r.flight + x.size } } i { L.sp i with list := (L.sp i).list ++ [y], next := x.pn + 1 } with last := mx L.last x.time } (setV v i v8) ∧ RF (w10.setCell ⟨p, 20, none⟩ (.int .u64 m)).drew w.heap.size (.slice A3 fr.length c3) fr ∧ KL (fun k => k = p ∨ (v i).ownBlock = some k) w (w10.setCell ⟨p, 20, none⟩ (.int .u64 m)).drew) := by
      intro m hm
      subst hm
      have K9 := KL.drew (HKA.out.trans (KL.of_kp ((Kp.refl p w10).set 20 (.int .u64 (mx L.last x.time))) (.inl rfl)))
      refine ⟨?_, HRF.out _ K9, HK5.out.trans (by rw [HVI.out]; exact K9)⟩
      have e := led_drew (putLast HLA.out (mx L.last x.time))
      have e2 : ∀ La Lb : Lg, La = Lb → Led (w10.setCell ⟨p, 20, none⟩ (.int .u64 (mx L.last x.time))).drew p base La (setV v i v8) → Led (w10.setCell ⟨p, 20, none⟩ (.int .u64 (mx L.last x.time))).drew p base Lb (setV v i v8) := fun _ _ e h => e ▸ h
      refine e2 _ _ ?_ e
      rw [HE5.out, ← HL5e.out, HL0.out]
      simp only [setSp_setSp, setSp_same]
      rfl
    have HFIN := Lib.hid fin
    have HNN : Hid (v8.ownBlock = (v i).ownBlock ∨ ∃ b, v8.ownBlock = some b ∧ w.heap.size ≤ b) := Lib.hid (by
      rcases HN8.out with h | ⟨b, h, h2⟩
      · exact .inl (by rw [HVI.out]; exact h)
      · exact .inr ⟨b, h, Nat.le_trans HK5.out.size h2⟩)
    rw [← HY.out] at HFIN
    clear fin HLA HKA HBA HE5 HN8 HL8 HK8 HRF HRFX hls HC7 HRW HK5 HR5 HB5
    by_cases hm : L.last < x.time
    · go_upto_region 15 with fail
      go_region
      go_wp2_with fail
      go_ret
      obtain ⟨a1, a2, a3⟩ := HFIN.out x.time (by unfold mx; rw [if_pos (by omega)])
      exact ⟨rfl, _, _, _, a1, a2, HNN.out, a3, HN3.out⟩
    · go_upto_region 15 with fail
      go_region
      go_wp2_with fail
      go_ret
      obtain ⟨a1, a2, a3⟩ := HFIN.out L.last (by unfold mx; rw [if_neg (by omega)])
      exact ⟨rfl, _, _, _, a1, a2, HNN.out, a3, HN3.out⟩
end Go.Proofs.Ytgdboikoejodpaa.Sent
