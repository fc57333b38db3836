/- Ack: the walk. -/
import Derived.Test.YtgdboikoejodpaaAckP
import Derived.Test.YtgdboikoejodpaaFlowLit
namespace Go.Proofs.Ytgdboikoejodpaa.Ack
open Go Go.RowKit Go.Proofs.YtgdboikoejodpaaW.PrintWords Go.Proofs.YtgdboikoejodpaaW.PrintLast Go.Proofs.YtgdboikoejodpaaW.PrintMore Go.Proofs.Ytgdboikoejodpaa.Keep Go.Proofs.Ytgdboikoejodpaa.Led Go.Proofs.Ytgdboikoejodpaa.Rate Go.Proofs.Ytgdboikoejodpaa.Rd Go.Proofs.Ytgdboikoejodpaa.Timer Go.Proofs.Ytgdboikoejodpaa.LedSp Go.Proofs.Ytgdboikoejodpaa.Drop Go.Proofs.Ytgdboikoejodpaa.In Go.Proofs.Ytgdboikoejodpaa.Split Go.Proofs.Ytgdboikoejodpaa.GoneP Go.Proofs.Ytgdboikoejodpaa.Gone Go.Proofs.Ytgdboikoejodpaa.AckP
attribute [local go_sem] max2_int min2_int max_two min_two max_three min_three max_four min_four
set_option linter.unusedVariables false

/-- What Ack leaves: the answers' rows, the ledger behind. -/
def AckPost (w : World) (p base : Nat) (v : Nat → Value) (t : List S × List S × Int × Lg) (e : Ending) (w' : World) : Prop :=
  ∃ va vl v', e = .returned (.tuple #[va, vl, .int .i64 t.2.2.1]) ∧ Led w' p base t.2.2.2 v' ∧ RS w' w.heap.size va t.1 ∧ RS w' w.heap.size vl t.2.1 ∧ (∀ i b, i < 3 → (v' i).ownBlock = some b → (v i).ownBlock = some b ∨ w.heap.size ≤ b) ∧ Kp p w w'

abbrev pq (x : Q) : Prop := 0 ≤ x.lo ∧ x.lo < 18446744073709551616 ∧ 0 ≤ x.hi ∧ x.hi < 18446744073709551616
theorem rdQ_mem {l : List Q} {k : Nat} (h : k < l.length) : rdQ l (k : Int) ∈ l := by rw [rdQ_in h]; exact List.getElem_mem h
theorem topQ_b {l : List Q} {t next : Int} (hq : ∀ x ∈ l, pq x) (ht : 0 ≤ t ∧ t ≤ 4611686018427387904) (hn : next ≤ 4611686018427387904) (k : Nat) (hk : k ≤ l.length) (h : (l.take k).all (okQ next) = true) : 0 ≤ topQ (l.take k) t ∧ topQ (l.take k) t ≤ 4611686018427387904 := by
  induction k with
  | zero => exact ht
  | succ k ih =>
    have hk' : k < l.length := by omega
    have e : l.take (k + 1) = l.take k ++ [rdQ l (k : Int)] := by rw [rdQ_in hk']; exact List.take_succ_eq_append_getElem hk'
    rw [e, List.all_append] at h
    simp only [List.all_cons, List.all_nil, Bool.and_true, Bool.and_eq_true] at h
    have := ih (by omega) h.1
    have h2 := h.2
    unfold okQ at h2
    simp only [Bool.and_eq_true, decide_eq_true_eq] at h2
    have hp := hq _ (rdQ_mem hk')
    rw [topQ_take _ _ _ hk']
    unfold mx
    split <;> omega

theorem CQ_block {w w' : World} {A : Option Addr} {n : Nat} {xs : List Q} (h : Kd.C kQ w A n xs) (hb : ∀ a, A = some a → 0 < n → w'.heap[a.block]? = w.heap[a.block]?) : Kd.C kQ w' A n xs := by
  refine ⟨h.1, h.2.1, fun hn => ?_⟩
  obtain ⟨ad, e, hc⟩ := h.2.2 hn
  refine ⟨ad, e, fun j p hj => ?_⟩
  obtain ⟨c, hs, hr, hcell⟩ := hc j p hj
  refine ⟨c, hs, hr, fun i u hu => ?_⟩
  have e1 : (ad.add (j * kQ.sz + i)).block = ad.block := by unfold Addr.add; split <;> rfl
  rw [World.cell?_of_block (w := w) (by rw [e1]; exact hb ad e hn)]
  exact hcell i u hu
theorem CQ_lt {w : World} {a : Addr} {n : Nat} {xs : List Q} (h : Kd.C kQ w (some a) n xs) (hn : 0 < n) : a.block < w.heap.size := by
  obtain ⟨ad, e, q0, -⟩ := at_Q h 0 hn
  injection e with e
  subst e
  have := World.block_lt_of_cell? w _ q0
  have e1 : (a.add (0 * 2)).block = a.block := by unfold Addr.add; split <;> rfl
  rwa [e1] at this
theorem CQ_kp {p : Nat} {w w' : World} {A : Option Addr} {n : Nat} {xs : List Q} (hk : Kp p w w') (h : Kd.C kQ w A n xs) (hp : ∀ a, A = some a → 0 < n → a.block ≠ p) : Kd.C kQ w' A n xs :=
  CQ_block h (fun a ha hn => hk.block a.block (by subst ha; exact CQ_lt h hn) (hp a ha hn))
theorem bdrewN {B : Nat} {a w : World} (h : Below B a w) (n : Nat) : Below B a (w.drewN n) := ⟨h.os, h.tape, h.output, h.size, h.block⟩
theorem mid_b {L : Lg} (h : LgB L) (i : Nat) (hi : i < 3) {st : List S} {tp : Int} {r : Rt} (ht : 0 ≤ tp ∧ tp ≤ 4611686018427387904) (hst : ∀ x ∈ st, x ∈ (L.sp i).list) (hn : st.length ≤ 1024) (hr : RtB r) : LgB { setSp L i { L.sp i with list := st, acked := tp } with r := r, tries := 0 } := by
  have e : ∀ k, ({ setSp L i { L.sp i with list := st, acked := tp } with r := r, tries := 0 } : Lg).sp k = if k = i then { L.sp i with list := st, acked := tp } else L.sp k := fun k => rfl
  refine ⟨hr, ?_, ?_, ?_, ⟨Int.le_refl _, by show (0 : Int) ≤ 1152921504606846976; decide⟩, h.last, ?_, ?_⟩
  · intro k hk; rw [e]; split
    · exact h.next i hi
    · exact h.next k hk
  · intro k hk; rw [e]; split
    · exact ht
    · exact h.acked k hk
  · intro k hk; rw [e]; split
    · exact h.timeout i hi
    · exact h.timeout k hk
  · intro k hk; rw [e]; split
    · exact fun x hx => h.list i hi x (hst x hx)
    · exact h.list k hk
  · intro k hk; rw [e]; split
    · exact hn
    · exact h.many k hk
set_option maxHeartbeats 4000000 in
set_option maxRecDepth 100000 in
theorem ack_calls {w : World} {p base : Nat} {L : Lg} {v : Nat → Value} (h : Led w p base L v) (hb : LgB L) (i : Nat) (hi : i < 3) (hf : sumS (L.sp i).list ≤ L.r.flight) (hwi : L.r.window + 1440000 * 1024 ≤ 1125899906842624) (now : Int) (hn : 0 ≤ now ∧ now ≤ 1099511627776) (B : Option Addr) (d : Nat) (l : List Q) (hC : Kd.C kQ w B l.length l) (hq : ∀ x ∈ l, pq x) (hl : l.length ≤ 1000000) (hBp : ∀ a, B = some a → 0 < l.length → a.block ≠ p) :
    Calls Try.prog 13 #[.pointer (some ⟨p, 0, none⟩), .int .i64 (i : Int), .slice B l.length d, .int .u64 now] w (AckPost w p base v (ackL i l now L)) := by
  have i0 : ((i : Int) < 0) = False := eq_false (by omega)
  have i1 : ((i : Int) ≥ 3) = False := eq_false (by omega)
  obtain ⟨n0, n1⟩ := hn
  have HQ := Lib.hid hq
  have HB := Lib.hid hb
  have HF := Lib.hid hf
  have HW := Lib.hid hwi
  have HH := Lib.hid h
  have HBP := Lib.hid hBp
  have hpl := blk_lt h.blk
  have hmf : ∀ (fn : Fn) (first cap : Array Value) (w : World), (Instr.makeFunc fn first cap).run Try.prog w = .ok (.func fn first cap) w := fun _ _ _ _ => rfl
  clear hBp
  obtain ⟨nx, hnx⟩ : ∃ n, (L.sp i).next = n := ⟨_, rfl⟩
  obtain ⟨ac, hac⟩ : ∃ n, (L.sp i).acked = n := ⟨_, rfl⟩
  have hnb : 0 ≤ nx ∧ nx ≤ 4611686018427387904 := hnx ▸ hb.next i hi
  have hab : 0 ≤ ac ∧ ac ≤ 4611686018427387904 := hac ▸ hb.acked i hi
  have hK := heap_alloc_new w (.cells #[.slice B l.length d] 36)
  have BL := (Below.refl w.heap.size w).alloc (Nat.le_refl _) (.cells #[.slice B l.length d] 36)
  have hL1 := h.below BL
  have hC1 := Kd.C_below hC BL
  have HNX := Lib.hid hnx
  have HAC := Lib.hid hac
  obtain ⟨t, ht⟩ : ∃ t, ackL i l now L = t := ⟨_, rfl⟩
  rw [ht]
  have HT := Lib.hid ht
  obtain ⟨-, k1, k2, -⟩ := sp_cells hL1 i hi
  rw [hnx] at k1
  rw [hac] at k2
  have j0 := blk_cell hK 0
  clear h hb hf hwi hq hnx hac ht hC
  have HK := Lib.hid hK
  have HBL := Lib.hid BL
  have HL1 := Lib.hid hL1
  have HC1 := Lib.hid hC1
  clear hK BL hL1 hC1
  go_enter Try.func13, Try.ntmps13
  go_upto_region 3 with fail
  generalize w.alloc (.cells #[.slice B l.length d] 36) = w1 at HK HBL HL1 HC1 k1 k2 j0 ⊢
  go_wp2_with fail
  clear k1 k2 j0
  go_loopw [12, 44] (fun tp j wr => ∃ k : Nat, k ≤ l.length ∧ j = .int .i64 (k : Int) ∧ tp = .int .u64 (topQ (l.take k) ac) ∧ Hid ((l.take k).all (okQ nx) = true) ∧ Hid (Below w1.heap.size w1 wr)) (fun _ j _ => l.length - (intOf j).toNat)
  case atStart => exact ⟨0, by omega, rfl, rfl, Lib.hid rfl, Lib.hid (Below.refl _ _)⟩
  case round =>
    obtain ⟨k, hk, rfl, rfl, HO, HBR⟩ := hrel
    by_cases hkl : k < l.length
    · have hCr := Kd.C_below HC1.out HBR.out
      obtain ⟨A', eA, j0, j1⟩ := at_Q hCr k hkl
      subst eA
      have hx := HQ.out _ (rdQ_mem hkl)
      have et := topQ_take l ac k hkl
      have eo : (l.take (k + 1)).all (okQ nx) = okQ nx (rdQ l (k : Int)) := by
        rw [show l.take (k + 1) = l.take k ++ [rdQ l (k : Int)] by rw [rdQ_in hkl]; exact List.take_succ_eq_append_getElem hkl, List.all_append, HO.out]; simp
      have hmem := rdQ_mem hkl
      obtain ⟨x, hxe⟩ : ∃ x, rdQ l (k : Int) = x := ⟨_, rfl⟩
      rw [hxe] at j0 j1 hx et eo hmem
      have htb := topQ_b HQ.out hab hnb.2 k hk HO.out
      obtain ⟨tp, htp⟩ : ∃ tp, topQ (l.take k) ac = tp := ⟨_, rfl⟩
      rw [htp] at et htb ⊢
      have HET := Lib.hid et
      have HEO := Lib.hid eo
      have HM := Lib.hid hmem
      obtain ⟨x0, x1, x2, x3⟩ := hx
      obtain ⟨t0, t1⟩ := htb
      have B1 := (Below.refl wr.heap.size wr).alloc (Nat.le_refl _) (.cells #[.int .u64 x.lo, .int .u64 x.hi] 35)
      have hK9 := heap_alloc_new wr (.cells #[.int .u64 x.lo, .int .u64 x.hi] 35)
      have hB9 := HBR.out.trans (B1.mono HBR.out.size)
      have L9 := HL1.out.below hB9
      obtain ⟨-, c1, -, -⟩ := sp_cells L9 i hi
      rw [HNX.out] at c1
      have q0 := blk_cell hK9 0
      have q1 := blk_cell hK9 1
      have HB9 := Lib.hid hB9
      clear hCr hxe htp et eo hmem B1 hK9 hB9 L9
      go_upto_region 10 with fail
      generalize wr.alloc (.cells #[.int .u64 x.lo, .int .u64 x.hi] 35) = w2 at HB9 c1 q0 q1 ⊢
      clear j0 j1
      by_cases h1 : x.lo > x.hi
      · have hd : decide (x.lo > x.hi) = true := by simp; omega
        have ho : okQ nx x = false := by simp [okQ]; omega
        have et2 : ackL i l now L = ([], [], 45, L) := by
          unfold ackL
          rw [HNX.out, if_pos (List.all_eq_false.2 ⟨x, HM.out, by rw [ho]; decide⟩)]
        have HE2 := Lib.hid (HT.out.symm.trans et2)
        have HOO := Lib.hid ho
        clear ho et2
        go_wp2_with fail
        go_quiet (fail)
        go_wp2_with fail
        go_ret3
        rw [HE2.out]
        have Bw := HBL.out.trans (HB9.out.mono HBL.out.size)
        exact ⟨_, _, v, rfl, HH.out.below (bdrewN Bw _), Kd.R_nil _ _ _ _ _, Kd.R_nil _ _ _ _ _, fun i b _ h => .inl h, Kp.of_below (bdrewN Bw _)⟩
      · have hd : decide (x.lo > x.hi) = false := by simp; omega
        by_cases h2 : x.hi ≥ nx
        · have hd2 : decide (x.hi ≥ nx) = true := by simp; omega
          have ho : okQ nx x = false := by simp [okQ]; omega
          have et2 : ackL i l now L = ([], [], 45, L) := by
            unfold ackL
            rw [HNX.out, if_pos (List.all_eq_false.2 ⟨x, HM.out, by rw [ho]; decide⟩)]
          have HE2 := Lib.hid (HT.out.symm.trans et2)
          have HOO := Lib.hid ho
          clear ho et2
          go_wp2_with fail
          go_quiet (fail)
          go_wp2_with fail
          go_ret3
          rw [HE2.out]
          have Bw := HBL.out.trans (HB9.out.mono HBL.out.size)
          exact ⟨_, _, v, rfl, HH.out.below (bdrewN Bw _), Kd.R_nil _ _ _ _ _, Kd.R_nil _ _ _ _ _, fun i b _ h => .inl h, Kp.of_below (bdrewN Bw _)⟩
        · have hd2 : decide (x.hi ≥ nx) = false := by simp; omega
          have ho : okQ nx x = true := by simp [okQ]; omega
          have HOO := Lib.hid (HEO.out.trans ho)
          clear ho
          have hw1 : IntKind.u64.wrap (x.hi + 1) = x.hi + 1 := by rw [IntKind.wrap_u64]; omega
          go_wp2_with fail
          go_quiet (fail)
          have HB10 := Lib.hid (bdrewN HB9.out nq)
          have Q1 := (World.cell?_drewN w2 nq _).trans q1
          generalize w2.drewN nq = w3 at HB10 Q1 ⊢
          by_cases h3 : tp < x.hi + 1
          · have e3 : topQ (l.take (k + 1)) ac = x.hi + 1 := by rw [HET.out]; unfold mx; rw [if_pos h3]
            have HE3 := Lib.hid e3
            clear e3
            go_wp2_with fail
            all_goals go_roundw
            all_goals first
              | exact ⟨k + 1, by omega, by simp, by rw [HE3.out], HOO, HB10⟩
              | (simp [intOf]; omega)
          · have e3 : topQ (l.take (k + 1)) ac = tp := by rw [HET.out]; unfold mx; rw [if_neg h3]
            have HE3 := Lib.hid e3
            clear e3
            go_wp2_with fail
            all_goals go_roundw
            all_goals first
              | exact ⟨k + 1, by omega, by simp, by rw [HE3.out], HOO, HB10⟩
              | (simp [intOf]; omega)
    · have ek : l.take k = l := List.take_of_length_le (by omega)
      have ho := HO.out
      rw [ek] at ho ⊢
      have htb := topQ_b HQ.out hab hnb.2 l.length (Nat.le_refl _) (by rw [List.take_length]; exact ho)
      rw [List.take_length] at htb
      obtain ⟨tp, htp⟩ : ∃ tp, topQ l ac = tp := ⟨_, rfl⟩
      rw [htp] at htb ⊢
      have HTP := Lib.hid htp
      have HOO := Lib.hid ho
      obtain ⟨t0, t1⟩ := htb
      have L9 := HL1.out.below HBR.out
      obtain ⟨-, -, c2, -⟩ := sp_cells L9 i hi
      have f2 := sp_frozen L9 (7 + i * 4 + 2)
      have La := putAcked L9 i hi tp
      have Bw := HBL.out.trans (HBR.out.mono HBL.out.size)
      have Ka := (Kp.of_below (p := p) Bw).set (7 + i * 4 + 2) (.int .u64 tp)
      have hKr := blk_below HK.out HBR.out
      have hKa := (Below.heap_setCell wr ⟨p, 7 + i * 4 + 2, none⟩ (.int .u64 tp) w.heap.size (fun e => by simp only at e; omega)).trans hKr
      have hCa := CQ_kp ((Kp.refl p wr).set (7 + i * 4 + 2) (.int .u64 tp)) (Kd.C_below HC1.out HBR.out) HBP.out
      have HLa := Lib.hid La
      have HKa := Lib.hid Ka
      have HKK := Lib.hid hKa
      have HCa := Lib.hid hCa
      clear htp ho ek L9 La Bw Ka hKr hKa hCa
      go_upto_region 15 with fail
      generalize wr.setCell ⟨p, 7 + i * 4 + 2, none⟩ (.int .u64 tp) = w2 at HLa HKa HKK HCa ⊢
      clear c2 f2
      have hxb := HB.out.many i hi
      obtain ⟨A, c, ev, hX⟩ := row_slice (HLa.out.row i hi)
      obtain ⟨z0, -, -, -⟩ := sp_cells HLa.out i hi
      rw [setSp_same] at hX ev
      simp only [] at hX ev
      obtain ⟨xs, hxs⟩ : ∃ xs, (L.sp i).list = xs := ⟨_, rfl⟩
      rw [hxs] at hX ev hxb
      rw [ev] at z0
      have hg := blk_cell HKK.out 0
      have SP := split_calls (w := w2) w.heap.size A c xs B d l hX HCa.out hg (blk_lt HKK.out) hl hxb
      have HSP := Lib.hid SP
      have HXS := Lib.hid hxs
      have HEV := Lib.hid ev
      clear SP hX ev hxs hg
      go_upto_region 16 with fail
      refine HSP.out.mono ?_
      rintro e w3 ⟨va, vn, rfl, RY, RN, AP, B3⟩
      have L3 := HLa.out.below B3
      have K3 := HKa.out.trans (Kp.of_below B3)
      have hsz := HKa.out.size
      have HRY := Lib.hid (Kd.R_lower RY hsz)
      have HRN := Lib.hid (Kd.R_lower RN hsz)
      have HAP := Lib.hid AP
      have HL3 := Lib.hid L3
      have HK3 := Lib.hid K3
      clear L3 K3 RY RN AP B3 z0
      go_upto_region 16 with fail
      obtain ⟨got, hgot⟩ : ∃ got, gotL l xs = got := ⟨_, rfl⟩
      obtain ⟨st, hst⟩ : ∃ st, stayL l xs = st := ⟨_, rfl⟩
      have HRY2 : Hid (RS w3 w.heap.size va got) := Lib.hid (by rw [← hgot]; exact HRY.out)
      have HRN2 : Hid (RS w3 w.heap.size vn st) := Lib.hid (by rw [← hst]; exact HRN.out)
      have hgl : got.length ≤ 1024 := by rw [← hgot]; exact Nat.le_trans (List.length_filter_le _ _) hxb
      have hgs : sumS got + sumS st = sumS xs := by rw [← hgot, ← hst]; exact sumS_filter xs _
      have hgm : ∀ x ∈ got, pk x := fun x hx => HB.out.list i hi x (by rw [HXS.out]; rw [← hgot] at hx; exact (List.mem_filter.1 hx).1)
      have HGOT := Lib.hid hgot
      have HST := Lib.hid hst
      have HGS := Lib.hid hgs
      have HGM := Lib.hid hgm
      obtain ⟨Ag, cg, eg, hXg⟩ := row_slice HRY2.out
      obtain ⟨As, cs, es, -⟩ := row_slice HRN2.out
      subst eg es
      have HXG := Lib.hid hXg
      clear hgot hst hgs hgm HRY HRN hXg
      by_cases hg0 : got = []
      · have et2 : ackL i l now L = ([], [], 0, setSp L i { L.sp i with acked := tp }) := by
          unfold ackL
          rw [HNX.out, HOO.out, HXS.out, HGOT.out, HAC.out, HTP.out, if_neg (by decide), if_pos hg0]
        have HE2 := Lib.hid (HT.out.symm.trans et2)
        have hg1 : got.length = 0 := by rw [hg0]; rfl
        rw [hg1]
        clear et2 hg0
        go_wp2_with fail
        go_ret3
        rw [HE2.out]
        exact ⟨_, _, v, rfl, HL3.out, Kd.R_nil _ _ _ _ _, Kd.R_nil _ _ _ _ _, fun i b _ h => .inl h, HK3.out⟩
      · obtain ⟨m, hm⟩ : ∃ m, got.length = m + 1 := ⟨got.length - 1, by cases got with
          | nil => exact absurd rfl hg0
          | cons x l => simp⟩
        have hw := HW.out
        have L4 := layList HL3.out i hi (.slice As st.length cs) st (Kd.R_lower HRN2.out (Nat.le_trans HH.out.hp (Nat.le_of_lt hpl))) (fun e => by have := (RS_bound HRN2.out p e).1; omega) (fun k hk hki b hb e => by have h1 := (RS_bound HRN2.out b hb).1; have h2 := (HH.out.own_base b (.inr ⟨k, hk, e⟩)).2; omega)
        rw [setSp_setSp, setSp_same] at L4
        have K4 := HK3.out.set (7 + i * 4) (.slice As st.length cs)
        have R4 := RS_move HRY2.out (w' := w3.setCell ⟨p, 7 + i * 4, none⟩ (.slice As st.length cs)) (fun b hb => Below.heap_setCell w3 ⟨p, 7 + i * 4, none⟩ _ b (fun e => by have := (RS_bound HRY2.out b hb).1; simp only at e; omega))
        obtain ⟨z0, -, -, -⟩ := sp_cells HL3.out i hi
        have f0 := sp_frozen HL3.out (7 + i * 4)
        have HL4 := Lib.hid L4
        have HK4 := Lib.hid K4
        have HR4 := Lib.hid R4
        have HM := Lib.hid hm
        clear L4 K4 R4
        rw [hm] at HR4 ⊢
        go_upto_region 19 with fail
        generalize w3.setCell ⟨p, 7 + i * 4, none⟩ (.slice As st.length cs) = w4 at HL4 HK4 HR4 ⊢
        clear z0 f0
        have hXr := row_slice' HR4.out
        obtain ⟨A', eA, j0, j1, j2, j3, j4⟩ := at_S hXr m (by omega)
        subst eA
        have hx := HGM.out _ (rdS_mem (l := got) (k := m) (by omega))
        have hla : lastS got = rdS got (m : Int) := by unfold lastS; rw [hm]; rfl
        obtain ⟨x, hxe⟩ : ∃ x, rdS got (m : Int) = x := ⟨_, rfl⟩
        rw [hxe] at j0 j1 j2 j3 j4 hx hla
        have HLA := Lib.hid hla
        have HX := Lib.hid hx
        have B1 := (Below.refl w4.heap.size w4).alloc (Nat.le_refl _) (.cells #[.int .u64 x.pn, .int .u64 x.time, .int .u64 x.size, .bool x.asks, .slice x.fa x.fn x.fc] 30)
        have HK1 := Lib.hid (sent_cells (w := w4) x 30)
        have HL5 := Lib.hid (HL4.out.below B1)
        have HK5 := Lib.hid (HK4.out.trans (Kp.of_below B1))
        have HK4s := Lib.hid (Nat.lt_of_lt_of_le hpl HK4.out.size)
        have HR5 := Lib.hid (Kd.R_below HR4.out B1)
        clear hXr hx hla hxe B1 HM
        have hwm : IntKind.i64.wrap ((m : Int) + 1 - 1) = (m : Int) := by rw [IntKind.wrap_i64]; omega
        go_upto_region 20 with fail
        generalize w4.alloc (.cells #[.int .u64 x.pn, .int .u64 x.time, .int .u64 x.size, .bool x.asks, .slice x.fa x.fn x.fc] 30) = w5 at HK1 HL5 HK5 HR5 ⊢
        clear j0 j1 j2 j3 j4 HL4 HK4 HR4 HL3 HK3 HXG HRY2 HRN2 HSP
        have q0 := blk_cell HK1.out 0
        have q1 := blk_cell HK1.out 1
        obtain ⟨-, -, c2, -⟩ := sp_cells HL5.out i hi
        rw [setSp_same] at c2
        simp only [] at c2
        obtain ⟨x1, x2, x3, x4, x5, x6⟩ := HX.out
        have hwp : IntKind.u64.wrap (x.pn + 1) = x.pn + 1 := by rw [IntKind.wrap_u64]; omega
        have HGF : Hid (sumS got ≤ L.r.flight) := Lib.hid (by have h1 := HGS.out; have h2 := HF.out; have h3 := sumS_nonneg (l := st) (fun x hx => by rw [← HST.out] at hx; exact (HB.out.list i hi x (by rw [HXS.out]; exact (List.mem_filter.1 hx).1)).2.2.2.2.1); rw [HXS.out] at h2; omega)
        obtain ⟨r1, hr1⟩ : ∃ r1, (if x.pn + 1 = tp then timeR (now - mn now x.time) L.r else L.r) = r1 := ⟨_, rfl⟩
        have hmn : 0 ≤ now - mn now x.time ∧ now - mn now x.time ≤ 1099511627776 := by unfold mn; split <;> omega
        have hr1b : RtB r1 ∧ r1.flight = L.r.flight ∧ r1.window = L.r.window := by
          rw [← hr1]
          split
          · exact time_b HB.out.r hmn
          · exact ⟨HB.out.r, rfl, rfl⟩
        have HR1 := Lib.hid hr1
        have HRB := Lib.hid hr1b
        clear hr1 hr1b
        go_wp2_with fail
        go_quiet (fail)
        have HL6 := Lib.hid (led_drewN HL5.out nq)
        have HK6 := Lib.hid (HK5.out.drewN nq)
        have HR6 : Hid (RS (w5.drewN nq) w.heap.size (.slice (some A') (m + 1) cg) got) := Lib.hid (RS_move HR5.out (fun _ _ => rfl))
        have Q1 := (World.cell?_drewN w5 nq _).trans q1
        have H4' : w4.heap.size < (w5.drewN nq).heap.size ∧ w4.heap.size ≠ p := ⟨blk_lt HK1.out, by have := HK4s.out; omega⟩
        generalize w5.drewN nq = w6 at HL6 HK6 HR6 Q1 H4' ⊢
        clear q0 q1 c2 HL5 HK5 HR5 HK1
        obtain ⟨v2, hv2⟩ : ∃ v2, setV v i (.slice As st.length cs) = v2 := ⟨_, rfl⟩
        rw [hv2] at HL6
        have HV2 := Lib.hid hv2
        clear hv2
        go_upto_if 101 with fail
        go_cut [16] from 19 (fun _ wc => Hid (Led wc p base { setSp L i { L.sp i with list := st, acked := tp } with r := r1 } v2) ∧ Hid (Kp p w wc) ∧ Hid (RS wc w.heap.size (.slice (some A') (m + 1) cg) got))
        case first =>
          have H4 : Hid (w4.heap.size < w6.heap.size ∧ w4.heap.size ≠ p) := Lib.hid H4'
          by_cases hq : x.pn + 1 = tp
          · have hqd : (x.pn + 1 == tp) = true := by simp [hq]
            have HR2 := Lib.hid (if_pos hq ▸ HR1.out)
            go_wp2_with fail
            refine Flow.wp_region_lit_late [102, 103, 104, 105, 106, 107, 108, 109, 110, 111] (by kernel_rfl) (fun jj W v => match jj with | 0 => v = .pointer (some ⟨p, 0, none⟩) | 1 => v = .pointer (some ⟨p, 0, none⟩) | 2 => v = .pointer (some ⟨p, 0, none⟩) | 3 => v = .int .u64 now | 4 => v = .int .u64 now | 5 => v = .pointer (some ⟨w4.heap.size, 1, none⟩) | 6 => v = .int .u64 x.time | 7 => v = .int .u64 (mn now x.time) | 8 => v = .int .u64 (now - mn now x.time) | 9 => Led W p base { setSp L i { L.sp i with list := st, acked := tp } with r := timeR (now - mn now x.time) L.r } v2 ∧ Kp p w W | _ => True) (fun W => Kp p w6 W) 9 (fun W => ∃ n, W = w6.drewN n) (by kernel_rfl) (by kernel_rfl) (by kernel_rfl) (by kernel_rfl) (kp_drew (Kp.refl p w6)) (⟨1, rfl⟩) ?_ ?_
            · intro i o ho a W hG hL hk hdep
              have hi : i < 10 := (Array.getElem?_eq_some_iff.1 ho).1
              rcases (by omega : i = 0 ∨ i = 1 ∨ i = 2 ∨ i = 3 ∨ i = 4 ∨ i = 5 ∨ i = 6 ∨ i = 7 ∨ i = 8 ∨ i = 9) with rfl | rfl | rfl | rfl | rfl | rfl | rfl | rfl | rfl | rfl
              · obtain rfl := Option.some.inj ho
                have e0 : a.tmps.getD 0 undef = .pointer (some ⟨p, 0, none⟩) := hk 0 (by kernel_rfl)
                clear hL
                refine Flow.op_want rfl rfl (fun K hK => ?_)
                clear hdep hk ho
                go_simp
                exact hK _ _ ⟨_, rfl, hG, rfl, fun _ _ _ h => h, fun _ h => h⟩
              · obtain rfl := Option.some.inj ho
                have e102 : a.tmps.getD 102 undef = .pointer (some ⟨p, 0, none⟩) := hdep 0 102 (by kernel_rfl)
                clear hL
                refine Flow.op_want rfl rfl (fun K hK => ?_)
                clear hdep hk ho
                go_simp
                exact hK _ _ ⟨_, rfl, hG, rfl, fun _ _ _ h => h, fun _ h => h⟩
              · obtain rfl := Option.some.inj ho
                have e103 : a.tmps.getD 103 undef = .pointer (some ⟨p, 0, none⟩) := hdep 1 103 (by kernel_rfl)
                clear hL
                refine Flow.op_want rfl rfl (fun K hK => ?_)
                clear hdep hk ho
                go_simp
                exact hK _ _ ⟨_, rfl, hG, rfl, fun _ _ _ h => h, fun _ h => h⟩
              · obtain rfl := Option.some.inj ho
                have e3 : a.tmps.getD 3 undef = .int .u64 now := hk 3 (by kernel_rfl)
                clear hL
                refine Flow.op_want rfl rfl (fun K hK => ?_)
                clear hdep hk ho
                go_simp
                exact hK _ _ ⟨_, rfl, hG, rfl, fun _ _ _ h => h, fun _ h => h⟩
              · obtain rfl := Option.some.inj ho
                have e3 : a.tmps.getD 3 undef = .int .u64 now := hk 3 (by kernel_rfl)
                clear hL
                refine Flow.op_want rfl rfl (fun K hK => ?_)
                clear hdep hk ho
                go_simp
                exact hK _ _ ⟨_, rfl, hG, rfl, fun _ _ _ h => h, fun _ h => h⟩
              · obtain rfl := Option.some.inj ho
                have e16 : a.tmps.getD 16 undef = .pointer (some ⟨w4.heap.size, 0, none⟩) := hk 16 (by kernel_rfl)
                clear hL
                refine Flow.op_want rfl rfl (fun K hK => ?_)
                clear hdep hk ho
                go_simp
                exact hK _ _ ⟨_, rfl, hG, rfl, fun _ _ _ h => h, fun _ h => h⟩
              · obtain rfl := Option.some.inj ho
                have e107 : a.tmps.getD 107 undef = .pointer (some ⟨w4.heap.size, 1, none⟩) := hdep 5 107 (by kernel_rfl)
                have c := (World.cell?_of_block (w := w6) (a := ⟨w4.heap.size, 1, none⟩) (hG.block w4.heap.size H4.out.1 H4.out.2)).trans Q1
                clear hL
                refine Flow.op_want rfl rfl (fun K hK => ?_)
                clear hdep hk ho
                go_simp
                exact hK _ _ ⟨_, rfl, hG, rfl, fun _ _ _ h => h, fun _ h => h⟩
              · obtain rfl := Option.some.inj ho
                have e106 : a.tmps.getD 106 undef = .int .u64 now := hdep 4 106 (by kernel_rfl)
                have e108 : a.tmps.getD 108 undef = .int .u64 x.time := hdep 6 108 (by kernel_rfl)
                clear hL
                refine Flow.op_want rfl rfl (fun K hK => ?_)
                clear hdep hk ho
                by_cases hlt : x.time < now
                · go_simp
                  exact hK _ _ ⟨_, rfl, hG, congrArg (Value.int .u64) (by unfold mn; rw [if_pos hlt]), fun _ _ _ h => h, fun _ h => h⟩
                · go_simp
                  exact hK _ _ ⟨_, rfl, hG, congrArg (Value.int .u64) (by unfold mn; rw [if_neg hlt]), fun _ _ _ h => h, fun _ h => h⟩
              · obtain rfl := Option.some.inj ho
                have e105 : a.tmps.getD 105 undef = .int .u64 now := hdep 3 105 (by kernel_rfl)
                have e109 : a.tmps.getD 109 undef = .int .u64 (mn now x.time) := hdep 7 109 (by kernel_rfl)
                clear hL
                refine Flow.op_want rfl rfl (fun K hK => ?_)
                clear hdep hk ho
                go_simp
                exact hK _ _ ⟨_, rfl, hG, congrArg (Value.int .u64) (by rw [IntKind.wrap_u64]; omega), fun _ _ _ h => h, fun _ h => h⟩
              · obtain rfl := Option.some.inj ho
                have e104 : a.tmps.getD 104 undef = .pointer (some ⟨p, 0, none⟩) := hdep 2 104 (by kernel_rfl)
                have e110 : a.tmps.getD 110 undef = .int .u64 (now - mn now x.time) := hdep 8 110 (by kernel_rfl)
                refine Flow.op_want rfl rfl (fun K hK => ?_)
                obtain ⟨n9, rfl⟩ := hL rfl
                clear hdep hk ho
                go_simp
                refine (time_calls (led_drewN HL6.out n9) HB.out.r (now - mn now x.time) hmn).mono ?_
                rintro e W2 ⟨rfl, L2, K2⟩
                refine hK _ _ ⟨_, rfl, hG.trans K2, ⟨L2, (HK6.out.drewN n9).trans K2⟩, ?_, fun h => absurd rfl h⟩
                intro j u hj
                split <;> intro h <;> first | exact h | exact absurd rfl hj.1
            · intro us9 w9 hG9 hval
              have HT9 : (fun (W : World) (v : Value) => Led W p base { setSp L i { L.sp i with list := st, acked := tp } with r := timeR (now - mn now x.time) L.r } v2 ∧ Kp p w W) w9 (us9 111) := hval 9 _ 111 rfl rfl
              clear hval
              simp only [Flow.lay, List.set_cons_zero, List.set_cons_succ]
              go_wp2_with fail
              go_meet
              case rel => exact ⟨by rw [HR2.out] at HT9; exact Lib.hid HT9.1, Lib.hid HT9.2, Lib.hid (Kp.R hG9 HR6.out hpl)⟩
          · have hqd : (x.pn + 1 == tp) = false := by simp [hq]
            go_wp2_with fail
            go_meet
            case rel => exact ⟨by rw [← HR1.out, if_neg hq]; exact HL6, HK6, HR6⟩
        case rest =>
          obtain ⟨HLc, HKc, HRc⟩ := hcut
          clear HL6 HK6 HR6 Q1
          have hgl2 : got.length ≤ 1024 := hgl
          have hszc := HKc.out.size
          go_wp2_with fail
          go_loopw [114] (fun j wr => ∃ k : Nat, k ≤ m + 1 ∧ j = .int .i64 (k : Int) ∧ Hid (Led wr p base { setSp L i { L.sp i with list := st, acked := tp } with r := moreAll (got.take k) r1 } v2) ∧ Hid (Kp p w wr) ∧ Hid (RS wr w.heap.size (.slice (some A') (m + 1) cg) got)) (fun j _ => m + 1 - (intOf j).toNat)
          case atStart => exact ⟨0, by omega, rfl, by simpa [moreAll] using HLc, HKc, HRc⟩
          case round =>
            obtain ⟨k, hk, rfl, HLr, HKr, HRr⟩ := hrel
            by_cases hkl : k < m + 1
            · obtain ⟨A2, eA, j0, j1, j2, j3, j4⟩ := at_S (row_slice' HRr.out) k (by omega)
              cases eA
              have hx := HGM.out _ (rdS_mem (l := got) (k := k) (by omega))
              have hma := moreAll_take got r1 k (by omega)
              obtain ⟨mb1, mb2, mb3⟩ := moreAll_b got r1 HRB.out.1 HGM.out (by rw [HRB.out.2.1]; exact HGF.out) (by rw [HRB.out.2.2]; exact Int.le_trans (by omega) HW.out) k (by omega)
              have hs1 := sumS_take got k (by omega)
              have hs2 := sumS_split got (k + 1)
              have hs3 := sumS_nonneg (l := got.drop (k + 1)) (fun x hx => (HGM.out x (List.mem_of_mem_drop hx)).2.2.2.2.1)
              have hgf := HGF.out
              have hfl := HRB.out.2.1
              obtain ⟨y, hye⟩ : ∃ y, rdS got (k : Int) = y := ⟨_, rfl⟩
              rw [hye] at j0 j1 j2 j3 j4 hx hma hs1
              obtain ⟨y1, y2, y3, y4, y5, y6⟩ := hx
              obtain ⟨rk, hrk⟩ : ∃ rk, moreAll (got.take k) r1 = rk := ⟨_, rfl⟩
              rw [hrk] at HLr hma mb1 mb2 mb3
              have hyf : y.size ≤ rk.flight := by omega
              have HMA := Lib.hid hma
              have HMB := Lib.hid mb1
              clear hma mb1 mb2 mb3 hs1 hs2 hs3 hgf hfl hye hrk
              go_upto_region 25 with fail
              have B := (Below.refl wr.heap.size wr).alloc (Nat.le_refl _) (.cells #[.int .u64 y.pn, .int .u64 y.time, .int .u64 y.size, .bool y.asks, .slice y.fa y.fn y.fc] 30)
              have HK9 := Lib.hid (sent_cells (w := wr) y 30)
              have HL9 := Lib.hid (HLr.out.below B)
              have HR9 := Lib.hid (Kd.R_below HRr.out B)
              have HKp9 := Lib.hid (HKr.out.trans (Kp.of_below B))
              clear B j0 j1 j2 j3 j4 HLr HRr HKr
              generalize wr.alloc (.cells #[.int .u64 y.pn, .int .u64 y.time, .int .u64 y.size, .bool y.asks, .slice y.fa y.fn y.fc] 30) = w7 at HK9 HL9 HR9 HKp9 ⊢
              have q0 := blk_cell HK9.out 0
              have q1 := blk_cell HK9.out 1
              have q2 := blk_cell HK9.out 2
              have q3 := blk_cell HK9.out 3
              have q4 := blk_cell HK9.out 4
              have HLS := Lib.hid (fun n => more_calls (led_drewN HL9.out n) HMB.out y ⟨y5, y6⟩ ⟨y3, y4⟩ hyf)
              go_region_with (go_at_call 37; refine (HLS.out _).mono ?_; rintro e w9 ⟨rfl, L9, K9⟩)
              have HLn : Hid (Led w9 p base { setSp L i { L.sp i with list := st, acked := tp } with r := moreAll (got.take (k + 1)) r1 } v2) := by rw [HMA.out]; exact Lib.hid L9
              have HKn := Lib.hid (HKp9.out.trans ⟨K9.os, K9.tape, K9.output, K9.size, K9.block⟩)
              have HRn := Lib.hid (RS_move HR9.out (w' := w9) (fun b hb => K9.block b (RS_bound HR9.out b hb).2 (fun e => by have := (RS_bound HR9.out b hb).1; omega)))
              clear L9 K9 HL9 HR9 HKp9 HLS HK9 q0 q1 q2 q3 q4
              go_wp2_with fail
              go_roundw
              case rel => exact ⟨k + 1, by omega, by simp, HLn, HKn, HRn⟩
              case measure => simp [intOf]; omega
            · have ek : got.take k = got := List.take_of_length_le (by omega)
              rw [ek] at HLr
              obtain ⟨k4, k5⟩ := end_cells HLr.out
              have z4 := sp_frozen HLr.out 19
              simp only [] at k4
              obtain ⟨rk, hrk⟩ : ∃ rk, moreAll got r1 = rk := ⟨_, rfl⟩
              obtain ⟨mb1, mb2, mb3⟩ := moreAll_b got r1 HRB.out.1 HGM.out (by rw [HRB.out.2.1]; exact HGF.out) (by rw [HRB.out.2.2]; exact Int.le_trans (by omega) HW.out) got.length (by omega)
              rw [List.take_length, hrk] at mb1 mb2
              have hfl := HRB.out.2.1
              have HMB := Lib.hid mb1
              have LM := putTries HLr.out 0
              rw [hrk] at LM
              have HLM := Lib.hid LM
              have HKM := Lib.hid (HKr.out.set 19 (.int .i64 0))
              have HRM := Lib.hid (Kp.R ((Kp.refl p wr).set 19 (.int .i64 0)) HRr.out hpl)
              have em : midL i l now L = { setSp L i { L.sp i with list := st, acked := tp } with r := rk, tries := 0 } := by
                unfold midL
                rw [HXS.out, HGOT.out, HST.out, HAC.out, HTP.out, HLA.out, HR1.out, hrk]
                rfl
              have et2 : ackL i l now L = (got, goneO i now (midL i l now L), 0, goneL i now (midL i l now L)) := by
                unfold ackL
                rw [HNX.out, HOO.out, HXS.out, HGOT.out, if_neg (by decide), if_neg hg0]
              rw [em] at et2
              have HE2 := Lib.hid (HT.out.symm.trans et2)
              have hmB := mid_b HB.out i hi ⟨t0, t1⟩ (st := st) (fun x hx => by rw [HXS.out]; rw [← HST.out] at hx; exact (List.mem_filter.1 hx).1) (by rw [← HST.out]; exact Nat.le_trans (List.length_filter_le _ _) hxb) HMB.out
              have GC := gone_calls HLM.out hmB i hi (by show sumS (Lg.sp (setSp L i _) i).list ≤ rk.flight; rw [setSp_same]; have := HGS.out; have := HF.out; rw [HXS.out] at this; show sumS st ≤ rk.flight; omega) now ⟨n0, n1⟩
              have HGC := Lib.hid GC
              clear GC hmB et2 em LM mb1 mb2 mb3 hfl
              go_wp2_with fail
              refine HGC.out.mono ?_
              rintro e w8 ⟨vl, vs, rfl, L8, R8, V8, S8, K8⟩
              have HL8 := Lib.hid L8
              have HR8 := Lib.hid (Kd.R_lower R8 HKM.out.size)
              have HK8 := Lib.hid (HKM.out.trans K8)
              have HRa := Lib.hid (Kp.R K8 HRM.out hpl)
              have HS8 : Hid (∀ j b, j < 3 → (setV v2 i vs j).ownBlock = some b → (v j).ownBlock = some b ∨ w.heap.size ≤ b) := Lib.hid (by
                intro j b hj e
                by_cases hji : j = i
                · subst hji; rw [setV_same] at e; exact .inr (Nat.le_trans HKM.out.size (S8 b e))
                · rw [setV_other _ _ _ _ hji, ← HV2.out, setV_other _ _ _ _ hji] at e; exact .inl e)
              obtain ⟨A9, c9, e9, -⟩ := row_slice HR8.out
              subst e9
              clear L8 R8 V8 S8 K8
              go_wp2_with fail
              go_ret3
              rw [HE2.out]
              exact ⟨_, _, _, rfl, HL8.out, HRa.out, HR8.out, HS8.out, HK8.out⟩
end Go.Proofs.Ytgdboikoejodpaa.Ack
