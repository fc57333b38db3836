/- The reference's Ack: the walk. -/
import Derived.Test.YtgdboikoejodpaaRefSent
namespace Go.Proofs.Ytgdboikoejodpaa.RefAck
open Go Go.RowKit Go.Proofs.YtgdboikoejodpaaW.PrintWords Go.Proofs.YtgdboikoejodpaaW.PrintLast Go.Proofs.YtgdboikoejodpaaW.PrintMore Go.Proofs.Ytgdboikoejodpaa.Keep Go.Proofs.Ytgdboikoejodpaa.Led Go.Proofs.Ytgdboikoejodpaa.Rate Go.Proofs.Ytgdboikoejodpaa.Rd Go.Proofs.Ytgdboikoejodpaa.Timer Go.Proofs.Ytgdboikoejodpaa.LedSp Go.Proofs.Ytgdboikoejodpaa.Drop Go.Proofs.Ytgdboikoejodpaa.In Go.Proofs.Ytgdboikoejodpaa.Split Go.Proofs.Ytgdboikoejodpaa.GoneP Go.Proofs.Ytgdboikoejodpaa.Gone Go.Proofs.Ytgdboikoejodpaa.AckP Go.Proofs.Ytgdboikoejodpaa.Ack Go.Proofs.Ytgdboikoejodpaa.Clone Go.Proofs.Ytgdboikoejodpaa.Sent Go.Proofs.Ytgdboikoejodpaa.Inv Go.Proofs.Ytgdboikoejodpaa.Fire Go.Proofs.Ytgdboikoejodpaa.Law Go.Proofs.Ytgdboikoejodpaa.Ref Go.Proofs.Ytgdboikoejodpaa.RefB Go.Proofs.Ytgdboikoejodpaa.RefLost
set_option linter.unusedVariables false

def RAckPost (w : World) (q base : Nat) (v : Nat → Value) (t : List S × List S × Int × Lg) (e : Ending) (w' : World) : Prop :=
  ∃ va vl v', e = .returned (.tuple #[va, vl, .int .i64 t.2.2.1]) ∧ RL w' q base t.2.2.2 v' ∧ RE w' w.heap.size va t.1 ∧ RE w' w.heap.size vl t.2.1 ∧ (∀ i b, i < 3 → (v' i).ownBlock = some b → (v i).ownBlock = some b ∨ w.heap.size ≤ b) ∧ Kp q w w'
/-- In the loop over the list: got, stay. -/
structure RK (w W : World) (q base : Nat) (Lc : Lg) (v : Nat → Value) (vg vs : Value) (go st : List S) : Prop where
  led : RL W q base Lc v
  got : RE W w.heap.size vg go
  stay : RE W w.heap.size vs st
  apart : ∀ k, vg.ownBlock = some k → vs.ownBlock ≠ some k
  kp : Kp q w W
theorem RK.more_got {w W W' : World} {q base : Nat} {Lc : Lg} {v : Nat → Value} {vg vs v1 : Value} {go st go' : List S} (h : RK w W q base Lc v vg vs go st) (ho : ∀ k, own q v k → k < w.heap.size) (hr : RE W' w.heap.size v1 go') (hB : Below w.heap.size W W') (hG : W.grownBy W' vg.ownBlock) (hN : v1.ownBlock = vg.ownBlock ∨ ∃ b, v1.ownBlock = some b ∧ W.heap.size ≤ b) : RK w W' q base Lc v v1 vs go' st := by
  refine ⟨h.led.stays (fun k hk => hB.block k (ho k hk)), hr, RE_grown h.stay hG (fun k hk e => h.apart k e hk), fun k hk e => ?_, ⟨hB.os.trans h.kp.os, hB.tape.trans h.kp.tape, hB.output.trans h.kp.output, Nat.le_trans h.kp.size hB.size, fun k hk hn => (hB.block k hk).trans (h.kp.block k hk hn)⟩⟩
  rcases hN with h1 | ⟨b', h1, h2⟩
  · exact h.apart k (h1 ▸ hk) e
  · rw [h1] at hk; injection hk with hk
    have := (RE_bound h.stay k e).2
    omega
theorem RK.more_stay {w W W' : World} {q base : Nat} {Lc : Lg} {v : Nat → Value} {vg vs v1 : Value} {go st st' : List S} (h : RK w W q base Lc v vg vs go st) (ho : ∀ k, own q v k → k < w.heap.size) (hr : RE W' w.heap.size v1 st') (hB : Below w.heap.size W W') (hG : W.grownBy W' vs.ownBlock) (hN : v1.ownBlock = vs.ownBlock ∨ ∃ b, v1.ownBlock = some b ∧ W.heap.size ≤ b) : RK w W' q base Lc v vg v1 go st' := by
  refine ⟨h.led.stays (fun k hk => hB.block k (ho k hk)), RE_grown h.got hG (fun k hk e => h.apart k hk e), hr, fun k hk e => ?_, ⟨hB.os.trans h.kp.os, hB.tape.trans h.kp.tape, hB.output.trans h.kp.output, Nat.le_trans h.kp.size hB.size, fun k hk hn => (hB.block k hk).trans (h.kp.block k hk hn)⟩⟩
  rcases hN with h1 | ⟨b', h1, h2⟩
  · exact h.apart k hk (h1 ▸ e)
  · rw [h1] at e; injection e with e
    have := (RE_bound h.got k hk).2
    omega
theorem got_take (l : List Q) (xs : List S) (k : Nat) (hk : k < xs.length) : (l.any (inQ (rdS xs (k : Int)).pn) = true → gotL l (xs.take (k + 1)) = gotL l (xs.take k) ++ [rdS xs (k : Int)] ∧ stayL l (xs.take (k + 1)) = stayL l (xs.take k)) ∧ (l.any (inQ (rdS xs (k : Int)).pn) = false → gotL l (xs.take (k + 1)) = gotL l (xs.take k) ∧ stayL l (xs.take (k + 1)) = stayL l (xs.take k) ++ [rdS xs (k : Int)]) := by
  have e : xs.take (k + 1) = xs.take k ++ [rdS xs (k : Int)] := by rw [rdS_in hk]; exact List.take_succ_eq_append_getElem hk
  rw [e]
  unfold gotL stayL
  constructor
  · intro h
    rw [List.filter_append, List.filter_append, List.filter_cons_of_pos (by exact h), List.filter_cons_of_neg (by rw [h]; decide)]
    simp
  · intro h
    rw [List.filter_append, List.filter_append, List.filter_cons_of_neg (by rw [h]; decide), List.filter_cons_of_pos (by rw [h]; rfl)]
    simp

set_option maxHeartbeats 16000000 in
set_option maxRecDepth 100000 in
theorem rack_calls {w : World} {q base : Nat} {L : Lg} {v : Nat → Value} (h : RL w q base L v) {n : Nat} (hN : LgN n L) (hnn : n ≤ 500000) (i : Nat) (hi : i < 3) (now : Int) (hn : 0 ≤ now ∧ now ≤ 1099511627776) (B : Option Addr) (d : Nat) (l : List Q) (hC : Kd.C kQ w B l.length l) (hq : ∀ x ∈ l, pq x) (hl : l.length ≤ 1000000) (hBp : ∀ a, B = some a → 0 < l.length → a.block ≠ q) :
    Calls Try.prog 22 #[.pointer (some ⟨q, 0, none⟩), .int .i64 (i : Int), .slice B l.length d, .int .u64 now] w (RAckPost w q base v (ackL i l now L)) := by
  have i0 : ((i : Int) < 0) = False := eq_false (by omega)
  have i1 : ((i : Int) > 2) = False := eq_false (by omega)
  have i2 : ((i : Int) ≥ 3) = False := eq_false (by omega)
  obtain ⟨n0, n1⟩ := hn
  have HQ := Lib.hid hq
  have HN := Lib.hid hN
  have HL := Lib.hid h
  have HBP := Lib.hid hBp
  have HC := Lib.hid hC
  have hpl := blk_lt h.blk
  have HOW : Hid (∀ k, own q v k → k < w.heap.size) := Lib.hid (fun k hk => (h.own_base k hk).2)
  have hnb := hN.b.next i hi
  have hab := hN.b.acked i hi
  obtain ⟨nx, hnx⟩ : ∃ n, (L.sp i).next = n := ⟨_, rfl⟩
  obtain ⟨ac, hac⟩ : ∃ n, (L.sp i).acked = n := ⟨_, rfl⟩
  rw [hnx] at hnb
  rw [hac] at hab
  have HNX := Lib.hid hnx
  have HAC := Lib.hid hac
  obtain ⟨t, ht⟩ : ∃ t, ackL i l now L = t := ⟨_, rfl⟩
  rw [ht]
  have HT := Lib.hid ht
  clear h hN hBp hC hq hnx hac ht
  go_enter Try.func22, Try.ntmps22
  go_wp2_with fail
  go_loopw [12] (fun j wr => ∃ (k m : Nat), k ≤ l.length ∧ j = .int .i64 (k : Int) ∧ Hid ((l.take k).all (okQ nx) = true) ∧ wr = w.drewN m) (fun j _ => l.length - (intOf j).toNat)
  case atStart => exact ⟨0, 0, by omega, rfl, Lib.hid rfl, (World.drewN_zero w).symm⟩
  case round =>
    obtain ⟨k, m, hk, rfl, HO, rfl⟩ := hrel
    by_cases hkl : k < l.length
    · obtain ⟨A', eA, j0, j1⟩ := at_Q HC.out k hkl
      subst eA
      have hx := HQ.out _ (rdQ_mem hkl)
      have eo : (l.take (k + 1)).all (okQ nx) = okQ nx (rdQ l (k : Int)) := by
        rw [show l.take (k + 1) = l.take k ++ [rdQ l (k : Int)] by rw [rdQ_in hkl]; exact List.take_succ_eq_append_getElem hkl, List.all_append, HO.out]; simp
      have hmem := rdQ_mem hkl
      obtain ⟨x, hxe⟩ : ∃ x, rdQ l (k : Int) = x := ⟨_, rfl⟩
      rw [hxe] at j0 j1 hx eo hmem
      have HEO := Lib.hid eo
      have HM := Lib.hid hmem
      obtain ⟨x0, x1, x2, x3⟩ := hx
      obtain ⟨-, c1, -, -⟩ := HL.out.ways i hi
      rw [HNX.out] at c1
      clear hxe eo hmem
      have BAD : okQ nx x = false → t = ([], [], 45, L) := by
        intro ho
        have et2 : ackL i l now L = ([], [], 45, L) := by
          unfold ackL
          rw [HNX.out, if_pos (List.all_eq_false.2 ⟨x, HM.out, by rw [ho]; decide⟩)]
        exact HT.out.symm.trans et2
      have HBAD := Lib.hid BAD
      clear BAD
      by_cases h1 : x.lo > x.hi
      · have hd : decide (x.lo > x.hi) = true := by simp; omega
        go_wp2_with fail
        go_quiet (fail)
        go_wp2_with fail
        go_ret3
        rw [HBAD.out (by simp [okQ]; omega)]
        exact ⟨_, _, v, rfl, (HL.out.drewN m).drewN nq, Kd.R_nil _ _ _ _ _, Kd.R_nil _ _ _ _ _, fun i b _ h => .inl h, ((Kp.refl q w).drewN m).drewN nq⟩
      · have hd : decide (x.lo > x.hi) = false := by simp; omega
        by_cases h2 : x.hi ≥ nx
        · have hd2 : decide (x.hi ≥ nx) = true := by simp; omega
          go_wp2_with fail
          go_quiet (fail)
          go_wp2_with fail
          go_ret3
          rw [HBAD.out (by simp [okQ]; omega)]
          exact ⟨_, _, v, rfl, (HL.out.drewN m).drewN nq, Kd.R_nil _ _ _ _ _, Kd.R_nil _ _ _ _ _, fun i b _ h => .inl h, ((Kp.refl q w).drewN m).drewN nq⟩
        · have hd2 : decide (x.hi ≥ nx) = false := by simp; omega
          have HOO := Lib.hid (HEO.out.trans (by simp [okQ]; omega : okQ nx x = true))
          go_wp2_with fail
          go_quiet (fail)
          go_wp2_with fail
          go_roundw
          case rel => exact ⟨k + 1, m + nq, by omega, by simp, HOO, rfl⟩
          case measure => simp [intOf]; omega
    · have ek : l.take k = l := List.take_of_length_le (by omega)
      rw [ek] at HO
      go_wp2_with fail
      go_loopw [13] (fun j wr => ∃ (k : Nat), k ≤ l.length ∧ j = .int .i64 (k : Int) ∧ Hid (RL wr q base (setSp L i { L.sp i with acked := topQ (l.take k) ac }) v) ∧ Hid (Kp q w wr)) (fun j _ => l.length - (intOf j).toNat)
      case atStart => exact ⟨0, by omega, rfl, Lib.hid (by have e : setSp L i { L.sp i with acked := ac } = L := by rw [← HAC.out]; unfold setSp; congr 1; funext j; by_cases hj : j = i <;> simp [hj]
                                                           show RL _ q base (setSp L i { L.sp i with acked := ac }) v
                                                           rw [e]; exact HL.out.drewN m), Lib.hid ((Kp.refl q w).drewN m)⟩
      case round =>
        obtain ⟨k, hk, rfl, HLr, HKr⟩ := hrel
        by_cases hkl : k < l.length
        · have hCr := CQ_kp HKr.out HC.out HBP.out
          obtain ⟨A', eA, j0, j1⟩ := at_Q hCr k hkl
          subst eA
          have hx := HQ.out _ (rdQ_mem hkl)
          have et := topQ_take l ac k hkl
          have htb := topQ_b HQ.out hab hnb.2 k hk (by
            have h1 := HO.out
            rw [List.all_eq_true] at h1 ⊢
            exact fun y hy => h1 y (List.mem_of_mem_take hy))
          have htn := topQ_b HQ.out hab hnb.2 (k + 1) (by omega) (by
            have h1 := HO.out
            rw [List.all_eq_true] at h1 ⊢
            exact fun y hy => h1 y (List.mem_of_mem_take hy))
          obtain ⟨x, hxe⟩ : ∃ x, rdQ l (k : Int) = x := ⟨_, rfl⟩
          have hox : okQ nx x = true := by rw [← hxe]; exact List.all_eq_true.1 HO.out _ (rdQ_mem hkl)
          have hox2 : x.hi < nx := by unfold okQ at hox; simp only [Bool.and_eq_true, decide_eq_true_eq] at hox; exact hox.2
          rw [hxe] at j0 j1 hx et
          have hxe9 := Lib.hid hxe
          obtain ⟨tp, htp⟩ : ∃ tp, topQ (l.take k) ac = tp := ⟨_, rfl⟩
          rw [htp] at et htb HLr
          have HET := Lib.hid et
          obtain ⟨x0, x1, x2, x3⟩ := hx
          obtain ⟨-, -, c2, -⟩ := HLr.out.ways i hi
          rw [setSp_same] at c2
          simp only [] at c2
          have hw1 : IntKind.u64.wrap (x.hi + 1) = x.hi + 1 := by rw [IntKind.wrap_u64]; omega
          clear hCr hxe htp et hox
          by_cases h3 : x.hi + 1 > tp
          · have hd : decide (x.hi + 1 > tp) = true := by simp; omega
            have e3 : topQ (l.take (k + 1)) ac = x.hi + 1 := by rw [HET.out]; unfold mx; rw [if_pos (by omega)]
            have HE3 := Lib.hid e3
            clear e3
            go_wp2_with fail
            go_quiet (fail)
            have HL2 := Lib.hid (HLr.out.drewN nq)
            have HK2 := Lib.hid (HKr.out.drewN nq)
            have hCr2 : Kd.C kQ (wr.drewN nq) (some A') l.length l := CQ_kp HK2.out HC.out HBP.out
            generalize wr.drewN nq = w2 at HL2 HK2 hCr2 ⊢
            clear j0 j1 c2
            obtain ⟨A2, eA, j0, j1⟩ := at_Q hCr2 k hkl
            cases eA
            rw [show rdQ l (k : Int) = x from hxe9.out] at j0 j1
            obtain ⟨-, -, c2, -⟩ := HL2.out.ways i hi
            rw [setSp_same] at c2
            simp only [] at c2
            have z2 := HL2.out.fz (i * 4 + 2)
            have HS := Lib.hid (HL2.out.acked i hi (x.hi + 1))
            clear hCr2
            go_wp2_with fail
            go_roundw
            case rel => exact ⟨k + 1, by omega, by simp, by rw [HE3.out]; have h9 := HS.out; rw [setSp_setSp, setSp_same] at h9; exact Lib.hid h9, Lib.hid (HK2.out.set _ _)⟩
            case measure => simp [intOf]; omega
          · have hd : decide (x.hi + 1 > tp) = false := by simp; omega
            have e3 : topQ (l.take (k + 1)) ac = tp := by rw [HET.out]; unfold mx; rw [if_neg (by omega)]
            have HE3 := Lib.hid e3
            clear e3
            go_wp2_with fail
            go_quiet (fail)
            go_wp2_with fail
            go_roundw
            case rel => exact ⟨k + 1, by omega, by simp, by rw [HE3.out]; exact Lib.hid (HLr.out.drewN nq), Lib.hid (HKr.out.drewN nq)⟩
            case measure => simp [intOf]; omega
        · have ek : l.take k = l := List.take_of_length_le (by omega)
          rw [ek] at HLr
          have htb := topQ_b HQ.out hab hnb.2 l.length (Nat.le_refl _) (by rw [List.take_length]; exact HO.out)
          rw [List.take_length] at htb
          obtain ⟨tp, htp⟩ : ∃ tp, topQ l ac = tp := ⟨_, rfl⟩
          rw [htp] at htb HLr
          have HTP := Lib.hid htp
          obtain ⟨A, c, ev, -⟩ := RE_slice (HLr.out.row i hi)
          rw [setSp_same] at ev
          simp only [] at ev
          obtain ⟨xs, hxs⟩ : ∃ xs, (L.sp i).list = xs := ⟨_, rfl⟩
          rw [hxs] at ev
          have HXS := Lib.hid hxs
          have HEV := Lib.hid ev
          have hxb := HN.out.b.many i hi
          rw [hxs] at hxb
          have HP : Hid (∀ x ∈ xs, pk x) := Lib.hid (fun x hx => HN.out.b.list i hi x (by rw [hxs]; exact hx))
          clear htp ev hxs
          go_wp2_with fail
          go_loopw [14, 15, 16] (fun vg vs j wr => ∃ (k : Nat), k ≤ xs.length ∧ j = .int .i64 (k : Int) ∧ (∃ A c n, vg = .slice A n c) ∧ (∃ A c n, vs = .slice A n c) ∧ Hid (RK w wr q base (setSp L i { L.sp i with acked := tp }) v vg vs (gotL l (xs.take k)) (stayL l (xs.take k)))) (fun _ _ j _ => xs.length - (intOf j).toNat)
          case atStart => exact ⟨0, by omega, rfl, ⟨_, _, _, rfl⟩, ⟨_, _, _, rfl⟩, Lib.hid ⟨HLr.out, Kd.R_nil _ _ _ _ _, Kd.R_nil _ _ _ _ _, fun _ h => (nomatch h), HKr.out⟩⟩
          case round =>
            obtain ⟨k, hk, rfl, ⟨Ag, cg, ng, rfl⟩, ⟨As, cs, ns, rfl⟩, HR⟩ := hrel
            clear HLr HKr
            by_cases hkl : k < xs.length
            · have hX := HR.out.led.row i hi
              rw [setSp_same, HEV.out] at hX
              simp only [HXS.out] at hX
              obtain ⟨ad, A', c', eA, j0, j1, j2, j3, j4⟩ := at_E (RE_slice' hX) k hkl
              subst eA
              obtain ⟨k0, -, -, -⟩ := HR.out.led.ways i hi
              rw [HEV.out] at k0
              have hgt := got_take l xs k hkl
              have IN := rin_calls B d l (rdS xs (k : Int)).pn (CQ_kp HR.out.kp HC.out HBP.out) hl
              obtain ⟨x, hxe⟩ : ∃ x, rdS xs (k : Int) = x := ⟨_, rfl⟩
              rw [hxe] at j0 j1 j2 j3 j4 hgt IN
              have HGT := Lib.hid hgt
              have HIN := Lib.hid IN
              have hgl : (gotL l (xs.take k)).length ≤ 1024 := Nat.le_trans (List.length_filter_le _ _) (by rw [List.length_take]; omega)
              have hsl : (stayL l (xs.take k)).length ≤ 1024 := Nat.le_trans (List.length_filter_le _ _) (by rw [List.length_take]; omega)
              have hsz := HR.out.kp.size
              clear hX hgt IN hxe
              go_wp2_with fail
              refine HIN.out.mono ?_
              rintro e w2 ⟨rfl, rfl⟩
              cases hin : l.any (inQ x.pn) with
              | true =>
                obtain ⟨e1, e2⟩ := HGT.out.1 hin
                have HE1 := Lib.hid e1
                have HE2 := Lib.hid e2
                clear e1 e2
                go_wp2_with (first
              | ((with_reducible refine gate_builtin (b := .append) (xs := #[.tmp 111, .tmp 119]) rfl ?_); refine appE (w0 := wr) w.heap.size rfl (.tmp 111) (.tmp 119) rfl (q := x) HR.out.got rfl rfl (Below.refl _ _) (by omega) (by omega) ?_; intro v8 w8 R8 B8 G8 N8))
                have HRn := Lib.hid (HR.out.more_got HOW.out R8 B8 G8 N8)
                obtain ⟨A8a, c8a, e8a, -⟩ := RE_slice R8
                subst e8a
                go_roundw
                case rel => exact ⟨k + 1, by omega, by simp, ⟨_, _, _, rfl⟩, ⟨_, _, _, rfl⟩, by rw [HE1.out, HE2.out]; exact HRn⟩
                case measure => simp [intOf]; omega
              | false =>
                obtain ⟨e1, e2⟩ := HGT.out.2 hin
                have HE1 := Lib.hid e1
                have HE2 := Lib.hid e2
                clear e1 e2
                go_wp2_with (first
              | ((with_reducible refine gate_builtin (b := .append) (xs := #[.tmp 121, .tmp 129]) rfl ?_); refine appE (w0 := wr) w.heap.size rfl (.tmp 121) (.tmp 129) rfl (q := x) HR.out.stay rfl rfl (Below.refl _ _) (by omega) (by omega) ?_; intro v8 w8 R8 B8 G8 N8))
                have HRn := Lib.hid (HR.out.more_stay HOW.out R8 B8 G8 N8)
                obtain ⟨A8a, c8a, e8a, -⟩ := RE_slice R8
                subst e8a
                go_roundw
                case rel => exact ⟨k + 1, by omega, by simp, ⟨_, _, _, rfl⟩, ⟨_, _, _, rfl⟩, by rw [HE1.out, HE2.out]; exact HRn⟩
                case measure => simp [intOf]; omega
            · have ek : xs.take k = xs := List.take_of_length_le (by omega)
              rw [ek] at HR
              obtain ⟨got, hgot⟩ : ∃ got, gotL l xs = got := ⟨_, rfl⟩
              obtain ⟨st, hst⟩ : ∃ st, stayL l xs = st := ⟨_, rfl⟩
              rw [hgot, hst] at HR
              obtain ⟨Ag', cg', eg, -⟩ := RE_slice HR.out.got
              injection eg with eg1 eg2 eg3
              subst eg1 eg2 eg3
              obtain ⟨t0, t1⟩ := htb
              have HGOT := Lib.hid hgot
              have HST := Lib.hid hst
              by_cases hg0 : got = []
              · have et2 : ackL i l now L = ([], [], 0, setSp L i { L.sp i with acked := tp }) := by
                  unfold ackL
                  rw [HNX.out, HO.out, HXS.out, HGOT.out, HAC.out, HTP.out, if_neg (by decide), if_pos hg0]
                have HE2 := Lib.hid (HT.out.symm.trans et2)
                have hg1 : got.length = 0 := by rw [hg0]; rfl
                rw [hg1]
                clear et2 hg0
                obtain ⟨k0, -, -, -⟩ := HR.out.led.ways i hi
                rw [HEV.out] at k0
                go_wp2_with fail
                go_ret3
                rw [HE2.out]
                exact ⟨_, _, v, rfl, HR.out.led, Kd.R_nil _ _ _ _ _, Kd.R_nil _ _ _ _ _, fun i b _ h => .inl h, HR.out.kp⟩
              · obtain ⟨m, hm⟩ : ∃ m, got.length = m + 1 := ⟨got.length - 1, by cases got with
                  | nil => exact absurd rfl hg0
                  | cons x l => simp⟩
                have hgl : got.length ≤ 1024 := by rw [← hgot]; exact Nat.le_trans (List.length_filter_le _ _) hxb
                have HGM : Hid (∀ x ∈ got, pk x) := Lib.hid (fun x hx => HP.out x (by rw [← hgot] at hx; exact (List.mem_filter.1 hx).1))
                have HGF : Hid (sumS got ≤ L.r.flight) := Lib.hid (by
                  have h1 := sumS_filter xs (fun x => l.any (inQ x.pn))
                  have h1 : sumS (gotL l xs) + sumS (stayL l xs) = sumS xs := h1
                  have h2 := HN.out.fl i hi
                  have h3 := sumS_nonneg (l := st) (fun x hx => by rw [← hst] at hx; exact (HP.out x (List.mem_filter.1 hx).1).2.2.2.2.1)
                  rw [HXS.out] at h2
                  rw [hgot, hst] at h1
                  omega)
                have et2 : ackL i l now L = (got, goneO i now (midL i l now L), 0, goneL i now (midL i l now L)) := by
                  unfold ackL
                  rw [HNX.out, HO.out, HXS.out, HGOT.out, if_neg (by decide), if_neg hg0]
                have HE2 := Lib.hid (HT.out.symm.trans et2)
                have HMID := Lib.hid (midN HN.out hnn i hi l HQ.out (by rw [HNX.out]; exact HO.out) now ⟨n0, n1⟩ (by rw [HXS.out, hgot]; exact hg0))
                have LB := HR.out.led.lay i hi (.slice As ns cs) st (Kd.R_lower HR.out.stay (Nat.le_trans HL.out.hp (Nat.le_of_lt hpl))) (fun e => by have := (RE_bound HR.out.stay q e).1; omega)
                rw [setSp_setSp, setSp_same] at LB
                have KB := HR.out.kp.set (i * 4) (.slice As ns cs)
                have RB := RE_kp HR.out.got ((Kp.refl q wr).set (i * 4) (.slice As ns cs)) hpl
                obtain ⟨k0, -, -, -⟩ := HR.out.led.ways i hi
                rw [HEV.out] at k0
                have z0 := HR.out.led.fz (i * 4)
                have HSB : Hid (∀ b, (Value.slice As ns cs).ownBlock = some b → w.heap.size ≤ b) := Lib.hid (fun b hb => (RE_bound HR.out.stay b hb).1)
                have HLB := Lib.hid LB
                have HKB := Lib.hid KB
                have HRB := Lib.hid RB
                clear LB KB RB hgot hst et2 HT
                rw [hm] at HRB ⊢
                go_upto_region 24 with fail
                generalize wr.setCell ⟨q, i * 4, none⟩ (.slice As ns cs) = w4 at HLB HKB HRB ⊢
                clear k0 z0 HR
                obtain ⟨v2, hv2⟩ : ∃ v2, setV v i (.slice As ns cs) = v2 := ⟨_, rfl⟩
                rw [hv2] at HLB
                have HV2 := Lib.hid hv2
                obtain ⟨ad, A', c', eA, j0, j1, j2, j3, j4⟩ := at_E (RE_slice' HRB.out) m (by omega)
                subst eA
                have hx := HGM.out _ (rdS_mem (l := got) (k := m) (by omega))
                have hla : lastS got = rdS got (m : Int) := by unfold lastS; rw [hm]; rfl
                obtain ⟨x, hxe⟩ : ∃ x, rdS got (m : Int) = x := ⟨_, rfl⟩
                rw [hxe] at j0 j1 j2 j3 j4 hx hla
                have HLA := Lib.hid hla
                have B1 := (Below.refl w4.heap.size w4).alloc (Nat.le_refl _) (.cells #[.int .u64 x.pn, .int .u64 x.time, .int .u64 x.size, .bool x.asks, .slice A' x.fn c'] 30)
                have HK1 := Lib.hid (heap_alloc_new w4 (.cells #[.int .u64 x.pn, .int .u64 x.time, .int .u64 x.size, .bool x.asks, .slice A' x.fn c'] 30))
                have HL5 := Lib.hid (HLB.out.below B1)
                have HK5 := Lib.hid (HKB.out.trans (Kp.of_below B1))
                have HR5 := Lib.hid (Kd.R_below HRB.out B1)
                have hwm : IntKind.i64.wrap ((m : Int) + 1 - 1) = (m : Int) := by rw [IntKind.wrap_i64]; omega
                clear hla hxe B1 hv2
                go_upto_region 25 with fail
                generalize w4.alloc (.cells #[.int .u64 x.pn, .int .u64 x.time, .int .u64 x.size, .bool x.asks, .slice A' x.fn c'] 30) = w5 at HK1 HL5 HK5 HR5 ⊢
                clear j0 j1 j2 j3 j4
                have q0 := blk_cell HK1.out 0
                have hbq : w4.heap.size ≠ q := by have := HKB.out.size; omega
                obtain ⟨-, -, c2, -⟩ := HL5.out.ways i hi
                rw [setSp_same] at c2
                simp only [] at c2
                obtain ⟨x1, x2, x3, x4, x5, x6⟩ := hx
                have hwp : IntKind.u64.wrap (x.pn + 1) = x.pn + 1 := by rw [IntKind.wrap_u64]; omega
                obtain ⟨r1, hr1⟩ : ∃ r1, (if x.pn + 1 = tp then timeR (now - mn now x.time) L.r else L.r) = r1 := ⟨_, rfl⟩
                have hmn : 0 ≤ now - mn now x.time ∧ now - mn now x.time ≤ 1099511627776 := by unfold mn; split <;> omega
                have HR1B : Hid (RtB r1 ∧ r1.flight = L.r.flight ∧ r1.window = L.r.window) := Lib.hid (by
                  rw [← hr1]
                  split
                  · exact time_b HN.out.b.r hmn
                  · exact ⟨HN.out.b.r, rfl, rfl⟩)
                have HR1 := Lib.hid hr1
                clear hr1
                go_wp2_with fail
                go_quiet (fail)
                have HL6 := Lib.hid (HL5.out.drewN nq)
                have HK6 := Lib.hid (HK5.out.drewN nq)
                have HR6 : Hid (RE (w5.drewN nq) w.heap.size (.slice (some ad) (m + 1) cg) got) := Lib.hid (RE_move HR5.out (fun _ _ => rfl))
                have HB6 := Lib.hid (blk_drewN HK1.out nq)
                generalize w5.drewN nq = w6 at HL6 HK6 HR6 HB6 ⊢
                clear q0 c2 HL5 HK5 HR5 HK1 HLB HKB HRB
                go_upto_if 151 with fail
                go_cut [17] from 22 (fun _ wc => Hid (RL wc q base { setSp L i { L.sp i with list := st, acked := tp } with r := r1 } v2) ∧ Hid (Kp q w wc) ∧ Hid (RE wc w.heap.size (.slice (some ad) (m + 1) cg) got))
                case first =>
                  by_cases hq : x.pn + 1 = tp
                  · have hqd : (x.pn + 1 == tp) = true := by simp [hq]
                    have HR2 := Lib.hid (if_pos hq ▸ HR1.out)
                    have q1 := blk_cell HB6.out 1
                    obtain ⟨n1', hn1⟩ : ∃ n1', mx (now - mn now x.time) 1 = n1' := ⟨_, rfl⟩
                    have hnb1 : 1 ≤ n1' ∧ n1' ≤ 1099511627776 := by rw [← hn1]; unfold mx; split <;> omega
                    obtain ⟨sm0, sm1⟩ := HN.out.b.r.sm
                    obtain ⟨va0, va1⟩ := HN.out.b.r.va
                    obtain ⟨la0, la1⟩ := HN.out.b.r.la
                    go_upto_if 155 with fail
                    go_cut [18] from 144 (fun a wc => a = .int .u64 n1' ∧ wc = w6)
                    case first =>
                      by_cases hnt : now > x.time
                      · have e1 : n1' = now - x.time := by rw [← hn1]; unfold mx mn; (repeat' split) <;> omega
                        have hwn : IntKind.u64.wrap (now - x.time) = n1' := by rw [IntKind.wrap_u64]; omega
                        go_wp2_with fail
                        all_goals (go_meet; case rel => exact ⟨by first | rfl | rw [e1], rfl⟩)
                      · have e1 : n1' = 1 := by rw [← hn1]; unfold mx mn; (repeat' split) <;> omega
                        go_wp2_with fail
                        all_goals (go_meet; case rel => exact ⟨by rw [e1], rfl⟩)
                    case rest =>
                      obtain ⟨rfl, rfl⟩ := hcut
                      obtain ⟨m0, m1, m2, -, -, -, -, -⟩ := HL6.out.rate
                      have hrr : (setSp L i { L.sp i with list := st, acked := tp }).r = L.r := rfl
                      rw [hrr] at m0 m1 m2
                      have z0 := HL6.out.fz 12
                      have z1 := HL6.out.fz 13
                      have z2 := HL6.out.fz 14
                      have FIN : ∀ W rr, rr = timeR (now - mn now x.time) L.r → RL W q base { setSp L i { L.sp i with list := st, acked := tp } with r := rr } v2 → Kp q wc W → (Hid (RL W q base { setSp L i { L.sp i with list := st, acked := tp } with r := r1 } v2) ∧ Hid (Kp q w W) ∧ Hid (RE W w.heap.size (.slice (some ad) (m + 1) cg) got)) := by
                        intro W rr hrr hW hK
                        subst hrr
                        exact ⟨by rw [← HR2.out]; exact Lib.hid hW, Lib.hid (HK6.out.trans hK), Lib.hid (RE_kp HR6.out hK hpl)⟩
                      have HFIN := Lib.hid FIN
                      clear FIN
                      by_cases hl0 : L.r.latest = 0
                      · have hld : (L.r.latest == 0) = true := by simp [hl0]
                        have hd2 : n1'.tdiv 2 = n1' / 2 := Int.tdiv_eq_ediv_of_nonneg (by omega)
                        have hwd : IntKind.u64.wrap (n1' / 2) = n1' / 2 := by rw [IntKind.wrap_u64]; omega
                        have etr : timeR (now - mn now x.time) L.r = { L.r with latest := n1', smooth := n1', vary := n1' / 2 } := by unfold timeR; rw [if_pos hl0, hn1]
                        have HETR := Lib.hid etr
                        have HZ := Lib.hid hl0
                        clear etr hl0
                        have S1 := HL6.out.put (L' := { setSp L i { L.sp i with list := st, acked := tp } with r := { L.r with latest := n1' } }) 14 (.int .u64 n1') rfl (fun _ _ => rfl)
                        have S2 := S1.put (L' := { setSp L i { L.sp i with list := st, acked := tp } with r := { L.r with latest := n1', smooth := n1' } }) 12 (.int .u64 n1') rfl (fun _ _ => rfl)
                        have S3 := S2.put (L' := { setSp L i { L.sp i with list := st, acked := tp } with r := { L.r with latest := n1', smooth := n1', vary := n1' / 2 } }) 13 (.int .u64 (n1' / 2)) rfl (fun _ _ => rfl)
                        have KS := (((Kp.refl q wc).set 14 (.int .u64 n1')).set 12 (.int .u64 n1')).set 13 (.int .u64 (n1' / 2))
                        have HS3 := Lib.hid S3
                        have HKS := Lib.hid KS
                        clear S1 S2 S3 KS
                        go_wp2_with fail
                        go_meet
                        case rel => exact HFIN.out _ _ HETR.out.symm HS3.out HKS.out
                      · have hld : (L.r.latest == 0) = false := by simp [hl0]
                        have etr : timeR (now - mn now x.time) L.r = { L.r with latest := n1', vary := (3 * L.r.vary + (mx L.r.smooth n1' - mn L.r.smooth n1')) / 4, smooth := (7 * L.r.smooth + n1') / 8 } := by unfold timeR; rw [if_neg hl0, hn1]
                        have HETR := Lib.hid etr
                        clear etr
                        have S1 := HL6.out.put (L' := { setSp L i { L.sp i with list := st, acked := tp } with r := { L.r with latest := n1' } }) 14 (.int .u64 n1') rfl (fun _ _ => rfl)
                        have HS1 := Lib.hid S1
                        have HKS := Lib.hid ((Kp.refl q wc).set 14 (.int .u64 n1'))
                        clear S1
                        go_upto_region 34 with fail
                        generalize wc.setCell ⟨q, 14, none⟩ (.int .u64 n1') = w6 at HS1 HKS ⊢
                        clear m0 m1 m2 z0 z1 z2 q1
                        obtain ⟨so, hso⟩ : ∃ so, L.r.smooth = so := ⟨_, rfl⟩
                        obtain ⟨vo, hvo⟩ : ∃ vo, L.r.vary = vo := ⟨_, rfl⟩
                        obtain ⟨vy, hvy⟩ : ∃ vy, (3 * vo + (mx so n1' - mn so n1')) / 4 = vy := ⟨_, rfl⟩
                        rw [hso, hvo, hvy] at HETR
                        obtain ⟨v6, hv6⟩ : ∃ v6, v2 = v6 := ⟨_, rfl⟩
                        obtain ⟨L6, hL6⟩ : ∃ L6 : Lg, { setSp L i { L.sp i with list := st, acked := tp } with r := { L.r with latest := n1' } } = L6 := ⟨_, rfl⟩
                        have HL6 : Hid (RL w6 q base L6 v6) := Lib.hid (by rw [← hL6, ← hv6]; exact HS1.out)
                        have hgb : 0 ≤ mx so n1' - mn so n1' ∧ mx so n1' - mn so n1' ≤ 17592186044416 := by unfold mx mn; (repeat' split) <;> omega
                        have HC12 : Hid (∀ W, Below w6.heap.size w6 W → W.cell? ⟨q, 12, none⟩ = some (.int .u64 so)) := Lib.hid (fun W hG => by
                          have h9 := HL6.out.rate.1
                          rw [show L6.r.smooth = so by rw [← hL6]; exact hso] at h9
                          rw [World.cell?_of_block (hG.block q (blk_lt HL6.out.blk))]; exact h9)
                        have HC13 : Hid (∀ W, Below w6.heap.size w6 W → W.cell? ⟨q, 13, none⟩ = some (.int .u64 vo)) := Lib.hid (fun W hG => by
                          have h9 := HL6.out.rate.2.1
                          rw [show L6.r.vary = vo by rw [← hL6]; exact hvo] at h9
                          rw [World.cell?_of_block (hG.block q (blk_lt HL6.out.blk))]; exact h9)
                        have HSB2 : Hid (0 ≤ so ∧ so < 18446744073709551616) := Lib.hid (by omega)
                        have HNB : Hid (0 ≤ n1' ∧ n1' < 18446744073709551616) := Lib.hid (by omega)
                        have HW1 : Hid (IntKind.u64.wrap (3 * vo) = 3 * vo) := Lib.hid (by rw [IntKind.wrap_u64]; omega)
                        have HW2 : Hid (IntKind.u64.wrap (3 * vo + (mx so n1' - mn so n1')) = 3 * vo + (mx so n1' - mn so n1')) := Lib.hid (by rw [IntKind.wrap_u64]; omega)
                        have HW3 : Hid (IntKind.u64.wrap ((3 * vo + (mx so n1' - mn so n1')).tdiv 4) = vy) := Lib.hid (by rw [Int.tdiv_eq_ediv_of_nonneg (by omega), IntKind.wrap_u64]; omega)
                        refine Flow.wp_region_lit_last [179, 180, 181, 182, 183, 184, 185, 186, 187, 188, 189, 190, 191, 192, 193, 194] (by kernel_rfl) (fun jj W v => match jj with | 0 => v = .pointer (some ⟨q, 0, none⟩) | 1 => v = .pointer (some ⟨q, 0, none⟩) | 2 => v = .pointer (some ⟨q, 0, none⟩) | 3 => v = .pointer (some ⟨q, 13, none⟩) | 4 => v = .int .u64 vo | 5 => v = .int .u64 (3 * vo) | 6 => v = .pointer (some ⟨q, 0, none⟩) | 7 => v = .pointer (some ⟨q, 0, none⟩) | 8 => v = .pointer (some ⟨q, 12, none⟩) | 9 => v = .int .u64 so | 10 => v = .int .u64 n1' | 11 => v = .int .u64 (mx so n1' - mn so n1') | 12 => v = .int .u64 (3 * vo + (mx so n1' - mn so n1')) | 13 => v = .int .u64 vy | 14 => v = .pointer (some ⟨q, 0, none⟩) | 15 => v = .pointer (some ⟨q, 13, none⟩) | 16 => True | _ => True) (fun W => Below w6.heap.size w6 W) 16 (fun W => RL W q base { L6 with r := { L6.r with vary := vy } } v6 ∧ Kp q w6 W) 17 (fun W => True) (by kernel_rfl) (by kernel_rfl) (by kernel_rfl) (by kernel_rfl) (by kernel_rfl) (by decide) ((Below.refl w6.heap.size w6).drew) (trivial) ?_ ?_ ?_
                        · intro i o ho hz a W hG hL hk hdep
                          have hi : i < 17 := (Array.getElem?_eq_some_iff.1 ho).1
                          have hz : i ≠ 16 := hz
                          rcases (by omega : i = 0 ∨ i = 1 ∨ i = 2 ∨ i = 3 ∨ i = 4 ∨ i = 5 ∨ i = 6 ∨ i = 7 ∨ i = 8 ∨ i = 9 ∨ i = 10 ∨ i = 11 ∨ i = 12 ∨ i = 13 ∨ i = 14 ∨ i = 15) with rfl | rfl | rfl | rfl | rfl | rfl | rfl | rfl | rfl | rfl | rfl | rfl | rfl | rfl | rfl | rfl
                          · obtain rfl := Option.some.inj ho
                            have e0 : a.tmps.getD 0 undef = .pointer (some ⟨q, 0, none⟩) := hk 0 (by kernel_rfl)
                            clear hL
                            refine Flow.op_want rfl rfl (fun K hK => ?_)
                            clear hdep hk ho
                            go_simp
                            exact hK _ _ ⟨_, rfl, hG, rfl, fun _ _ _ h => h, fun _ h => h⟩
                          · obtain rfl := Option.some.inj ho
                            have e0 : a.tmps.getD 0 undef = .pointer (some ⟨q, 0, none⟩) := hk 0 (by kernel_rfl)
                            clear hL
                            refine Flow.op_want rfl rfl (fun K hK => ?_)
                            clear hdep hk ho
                            go_simp
                            exact hK _ _ ⟨_, rfl, hG, rfl, fun _ _ _ h => h, fun _ h => h⟩
                          · obtain rfl := Option.some.inj ho
                            have e180 : a.tmps.getD 180 undef = .pointer (some ⟨q, 0, none⟩) := hdep 1 180 (by kernel_rfl)
                            clear hL
                            refine Flow.op_want rfl rfl (fun K hK => ?_)
                            clear hdep hk ho
                            go_simp
                            exact hK _ _ ⟨_, rfl, hG, rfl, fun _ _ _ h => h, fun _ h => h⟩
                          · obtain rfl := Option.some.inj ho
                            have e181 : a.tmps.getD 181 undef = .pointer (some ⟨q, 0, none⟩) := hdep 2 181 (by kernel_rfl)
                            clear hL
                            refine Flow.op_want rfl rfl (fun K hK => ?_)
                            clear hdep hk ho
                            go_simp
                            exact hK _ _ ⟨_, rfl, hG, rfl, fun _ _ _ h => h, fun _ h => h⟩
                          · obtain rfl := Option.some.inj ho
                            have e182 : a.tmps.getD 182 undef = .pointer (some ⟨q, 13, none⟩) := hdep 3 182 (by kernel_rfl)
                            have c := HC13.out W hG
                            clear hL
                            refine Flow.op_want rfl rfl (fun K hK => ?_)
                            clear hdep hk ho
                            go_simp
                            exact hK _ _ ⟨_, rfl, hG, rfl, fun _ _ _ h => h, fun _ h => h⟩
                          · obtain rfl := Option.some.inj ho
                            have e183 : a.tmps.getD 183 undef = .int .u64 vo := hdep 4 183 (by kernel_rfl)
                            clear hL
                            refine Flow.op_want rfl rfl (fun K hK => ?_)
                            clear hdep hk ho
                            go_simp
                            exact hK _ _ ⟨_, rfl, hG, congrArg (Value.int .u64) HW1.out, fun _ _ _ h => h, fun _ h => h⟩
                          · obtain rfl := Option.some.inj ho
                            have e0 : a.tmps.getD 0 undef = .pointer (some ⟨q, 0, none⟩) := hk 0 (by kernel_rfl)
                            clear hL
                            refine Flow.op_want rfl rfl (fun K hK => ?_)
                            clear hdep hk ho
                            go_simp
                            exact hK _ _ ⟨_, rfl, hG, rfl, fun _ _ _ h => h, fun _ h => h⟩
                          · obtain rfl := Option.some.inj ho
                            have e185 : a.tmps.getD 185 undef = .pointer (some ⟨q, 0, none⟩) := hdep 6 185 (by kernel_rfl)
                            clear hL
                            refine Flow.op_want rfl rfl (fun K hK => ?_)
                            clear hdep hk ho
                            go_simp
                            exact hK _ _ ⟨_, rfl, hG, rfl, fun _ _ _ h => h, fun _ h => h⟩
                          · obtain rfl := Option.some.inj ho
                            have e186 : a.tmps.getD 186 undef = .pointer (some ⟨q, 0, none⟩) := hdep 7 186 (by kernel_rfl)
                            clear hL
                            refine Flow.op_want rfl rfl (fun K hK => ?_)
                            clear hdep hk ho
                            go_simp
                            exact hK _ _ ⟨_, rfl, hG, rfl, fun _ _ _ h => h, fun _ h => h⟩
                          · obtain rfl := Option.some.inj ho
                            have e187 : a.tmps.getD 187 undef = .pointer (some ⟨q, 12, none⟩) := hdep 8 187 (by kernel_rfl)
                            have c := HC12.out W hG
                            clear hL
                            refine Flow.op_want rfl rfl (fun K hK => ?_)
                            clear hdep hk ho
                            go_simp
                            exact hK _ _ ⟨_, rfl, hG, rfl, fun _ _ _ h => h, fun _ h => h⟩
                          · obtain rfl := Option.some.inj ho
                            have e18 : a.tmps.getD 18 undef = .int .u64 n1' := hk 18 (by kernel_rfl)
                            clear hL
                            refine Flow.op_want rfl rfl (fun K hK => ?_)
                            clear hdep hk ho
                            go_simp
                            exact hK _ _ ⟨_, rfl, hG, rfl, fun _ _ _ h => h, fun _ h => h⟩
                          · obtain rfl := Option.some.inj ho
                            have e188 : a.tmps.getD 188 undef = .int .u64 so := hdep 9 188 (by kernel_rfl)
                            have e189 : a.tmps.getD 189 undef = .int .u64 n1' := hdep 10 189 (by kernel_rfl)
                            clear hL
                            refine Flow.op_want rfl rfl (fun K hK => ?_)
                            clear hdep hk ho
                            go_simp
                            refine (gap_calls so n1' HSB2.out HNB.out).mono ?_
                            rintro e W2 ⟨rfl, rfl⟩
                            exact hK _ _ ⟨_, rfl, hG, rfl, fun _ _ _ h => h, fun _ h => h⟩
                          · obtain rfl := Option.some.inj ho
                            have e184 : a.tmps.getD 184 undef = .int .u64 (3 * vo) := hdep 5 184 (by kernel_rfl)
                            have e190 : a.tmps.getD 190 undef = .int .u64 (mx so n1' - mn so n1') := hdep 11 190 (by kernel_rfl)
                            clear hL
                            refine Flow.op_want rfl rfl (fun K hK => ?_)
                            clear hdep hk ho
                            go_simp
                            exact hK _ _ ⟨_, rfl, hG, congrArg (Value.int .u64) HW2.out, fun _ _ _ h => h, fun _ h => h⟩
                          · obtain rfl := Option.some.inj ho
                            have e191 : a.tmps.getD 191 undef = .int .u64 (3 * vo + (mx so n1' - mn so n1')) := hdep 12 191 (by kernel_rfl)
                            clear hL
                            refine Flow.op_want rfl rfl (fun K hK => ?_)
                            clear hdep hk ho
                            go_simp
                            exact hK _ _ ⟨_, rfl, hG, congrArg (Value.int .u64) HW3.out, fun _ _ _ h => h, fun _ h => h⟩
                          · obtain rfl := Option.some.inj ho
                            have e179 : a.tmps.getD 179 undef = .pointer (some ⟨q, 0, none⟩) := hdep 0 179 (by kernel_rfl)
                            clear hL
                            refine Flow.op_want rfl rfl (fun K hK => ?_)
                            clear hdep hk ho
                            go_simp
                            exact hK _ _ ⟨_, rfl, hG, rfl, fun _ _ _ h => h, fun _ h => h⟩
                          · obtain rfl := Option.some.inj ho
                            have e193 : a.tmps.getD 193 undef = .pointer (some ⟨q, 0, none⟩) := hdep 14 193 (by kernel_rfl)
                            clear hL
                            refine Flow.op_want rfl rfl (fun K hK => ?_)
                            clear hdep hk ho
                            go_simp
                            exact hK _ _ ⟨_, rfl, hG, rfl, fun _ _ _ h => h, fun _ h => h⟩
                        · intro o ho a W hG hk hdep
                          obtain rfl := Option.some.inj ho
                          have e192 : a.tmps.getD 192 undef = .int .u64 vy := hdep 13 192 (by kernel_rfl)
                          have e194 : a.tmps.getD 194 undef = .pointer (some ⟨q, 13, none⟩) := hdep 15 194 (by kernel_rfl)
                          refine Flow.op_want rfl rfl (fun K hK => ?_)
                          have fz := blk_frozen ((hG.block q (blk_lt HL6.out.blk)).trans HL6.out.blk) 13
                          have c := HC13.out W hG
                          clear hdep hk ho
                          go_simp
                          exact hK _ _ ⟨undef, rfl, (HL6.out.below hG).put 13 (.int .u64 vy) rfl (fun _ _ => rfl), (Kp.of_below hG).set 13 _⟩
                        · intro us w9 hE9
                          simp only [Flow.lay, List.set_cons_zero, List.set_cons_succ]
                          obtain ⟨RL9, K9⟩ := hE9
                          obtain ⟨m0, -, -, -, -, -, -, -⟩ := RL9.rate
                          replace m0 : w9.cell? ⟨q, 12, none⟩ = some (.int .u64 so) := by rw [← hso]; rw [← hL6] at m0; exact m0
                          have z0 := RL9.fz 12
                          have hw7 : IntKind.u64.wrap (7 * so) = 7 * so := by rw [IntKind.wrap_u64]; omega
                          have hw8 : IntKind.u64.wrap (7 * so + n1') = 7 * so + n1' := by rw [IntKind.wrap_u64]; omega
                          have hd8 : (7 * so + n1').tdiv 8 = (7 * so + n1') / 8 := Int.tdiv_eq_ediv_of_nonneg (by omega)
                          have hw9 : IntKind.u64.wrap ((7 * so + n1') / 8) = (7 * so + n1') / 8 := by rw [IntKind.wrap_u64]; omega
                          have R10 : RL (w9.setCell ⟨q, 12, none⟩ (.int .u64 ((7 * so + n1') / 8))) q base { setSp L i { L.sp i with list := st, acked := tp } with r := { L.r with latest := n1', vary := vy, smooth := (7 * so + n1') / 8 } } v2 := by
                            have h9 := RL9.put (L' := { L6 with r := { L6.r with vary := vy, smooth := (7 * so + n1') / 8 } }) 12 (.int .u64 ((7 * so + n1') / 8)) rfl (fun _ _ => rfl)
                            rw [← hL6, ← hv6] at h9
                            exact h9
                          have HR10 := Lib.hid R10
                          have HK10 := Lib.hid ((HKS.out.trans K9).set 12 (.int .u64 ((7 * so + n1') / 8)))
                          clear R10 RL9 K9
                          go_wp2_with fail
                          go_meet
                          case rel => exact HFIN.out _ _ HETR.out.symm HR10.out HK10.out
                  · have hqd : (x.pn + 1 == tp) = false := by simp [hq]
                    go_wp2_with fail
                    go_meet
                    case rel => exact ⟨by rw [← HR1.out, if_neg hq]; exact HL6, HK6, HR6⟩
                case rest =>
                  as_aux_lemma =>
                    obtain ⟨HLc, HKc, HRc⟩ := hcut
                    clear HL6 HK6 HR6 HB6
                    go_wp2_with fail
                    go_loopw [20] (fun j wr => ∃ k : Nat, k ≤ m + 1 ∧ j = .int .i64 (k : Int) ∧ Hid (RL wr q base { setSp L i { L.sp i with list := st, acked := tp } with r := moreAll (got.take k) r1 } v2) ∧ Hid (Kp q w wr) ∧ Hid (RE wr w.heap.size (.slice (some ad) (m + 1) cg) got)) (fun j _ => m + 1 - (intOf j).toNat)
                    case atStart => exact ⟨0, by omega, rfl, by simpa [moreAll] using HLc, HKc, HRc⟩
                    case round =>
                      obtain ⟨k, hk, rfl, HLr, HKr, HRr⟩ := hrel
                      clear HLc HKc HRc
                      by_cases hkl : k < m + 1
                      · obtain ⟨A2, Ay, cy, eA, j0, j1, j2, j3, j4⟩ := at_E (RE_slice' HRr.out) k (by omega)
                        cases eA
                        have hx := HGM.out _ (rdS_mem (l := got) (k := k) (by omega))
                        have hma := moreAll_take got r1 k (by omega)
                        obtain ⟨mb1, mb2, mb3⟩ := moreAll_b got r1 HR1B.out.1 HGM.out (by rw [HR1B.out.2.1]; exact HGF.out) (by rw [HR1B.out.2.2]; exact Int.le_trans (by omega) (HN.out.wi hnn)) k (by omega)
                        obtain ⟨y, hye⟩ : ∃ y, rdS got (k : Int) = y := ⟨_, rfl⟩
                        rw [hye] at j0 j1 j2 j3 j4 hx hma
                        obtain ⟨y1, y2, y3, y4, y5, y6⟩ := hx
                        obtain ⟨rk, hrk⟩ : ∃ rk, moreAll (got.take k) r1 = rk := ⟨_, rfl⟩
                        rw [hrk] at HLr hma mb1
                        have HMA := Lib.hid hma
                        have hwin := mb1.wi
                        have hbeg := mb1.be
                        clear hma mb1 mb2 mb3 hye hrk
                        have B := (Below.refl wr.heap.size wr).alloc (Nat.le_refl _) (.cells #[.int .u64 y.pn, .int .u64 y.time, .int .u64 y.size, .bool y.asks, .slice Ay y.fn cy] 30)
                        have HB9 := Lib.hid (heap_alloc_new wr (.cells #[.int .u64 y.pn, .int .u64 y.time, .int .u64 y.size, .bool y.asks, .slice Ay y.fn cy] 30))
                        have HL9 := Lib.hid (HLr.out.below B)
                        have HR9 := Lib.hid (Kd.R_below HRr.out B)
                        have HK9 := Lib.hid (HKr.out.trans (Kp.of_below B))
                        have hbq2 : wr.heap.size ≠ q := by have := HKr.out.size; omega
                        go_upto_region 40 with fail
                        generalize wr.alloc (.cells #[.int .u64 y.pn, .int .u64 y.time, .int .u64 y.size, .bool y.asks, .slice Ay y.fn cy] 30) = w7 at HB9 HL9 HR9 HK9 ⊢
                        clear j0 j1 j2 j3 j4 B HLr HKr HRr
                        have FIN : ∀ W rr, (moreR y rk = { rr with flight := (moreR y rk).flight }) → RL W q base { setSp L i { L.sp i with list := st, acked := tp } with r := rr } v2 → Kp q w7 W → (Hid (RL W q base { setSp L i { L.sp i with list := st, acked := tp } with r := moreAll (got.take (k + 1)) r1 } v2) ∧ Hid (Kp q w W) ∧ Hid (RE W w.heap.size (.slice (some ad) (m + 1) cg) got)) := by
                          intro W rr hrr hW hK
                          refine ⟨?_, Lib.hid (HK9.out.trans hK), Lib.hid (RE_kp HR9.out hK hpl)⟩
                          rw [HMA.out, hrr]
                          exact Lib.hid (hW.as_ rfl (fun _ _ => rfl))
                        have HFIN := Lib.hid FIN
                        clear FIN
                        have q1 := blk_cell HB9.out 1
                        obtain ⟨-, -, -, -, -, m5, -, -⟩ := HL9.out.rate
                        have m5 : w7.cell? ⟨q, 17, none⟩ = some (.int .u64 rk.began) := m5
                        have hwt : IntKind.u64.wrap (y.time + 1) = y.time + 1 := by rw [IntKind.wrap_u64]; omega
                        by_cases hc : y.time + 1 ≤ rk.began
                        · have em : moreR y rk = { rk with flight := (moreR y rk).flight } := by unfold moreR; rw [if_pos hc]
                          have HEM := Lib.hid em
                          clear em
                          go_quiet (fail)
                          go_wp2_with fail
                          go_roundw
                          case rel =>
                            obtain ⟨f1, f2, f3⟩ := HFIN.out (w7.drewN nq) rk HEM.out (HL9.out.drewN nq) ((Kp.refl q w7).drewN nq)
                            exact ⟨k + 1, by omega, by simp, f1, f2, f3⟩
                          case measure => simp [intOf]; omega
                        · go_quiet (fail)
                          have HL10 := Lib.hid (HL9.out.drewN nq)
                          have HK10 := Lib.hid ((Kp.refl q w7).drewN nq)
                          have HB10 := Lib.hid (blk_drewN HB9.out nq)
                          generalize w7.drewN nq = w10 at HL10 HK10 HB10 ⊢
                          clear q1 m5
                          obtain ⟨-, -, -, m3, m4, -, -, -⟩ := HL10.out.rate
                          have m3 : w10.cell? ⟨q, 15, none⟩ = some (.int .u64 rk.window) := m3
                          have m4 : w10.cell? ⟨q, 16, none⟩ = some (.int .u64 rk.limit) := m4
                          by_cases hw : rk.window < rk.limit
                          · have em : moreR y rk = { ({ rk with window := rk.window + y.size } : Rt) with flight := (moreR y rk).flight } := by unfold moreR; simp only []; rw [if_neg hc, if_pos hw]
                            have HEM := Lib.hid em
                            clear em
                            go_wp2_with fail
                            go_quiet (fail)
                            have HL11 := Lib.hid (HL10.out.drewN nq)
                            have HK11 := Lib.hid (HK10.out.drewN nq)
                            have HB11 := Lib.hid (blk_drewN HB10.out nq)
                            generalize w10.drewN nq = w11 at HL11 HK11 HB11 ⊢
                            clear m3 m4
                            have q2 := blk_cell HB11.out 2
                            obtain ⟨-, -, -, m3, -, -, -, -⟩ := HL11.out.rate
                            have m3 : w11.cell? ⟨q, 15, none⟩ = some (.int .u64 rk.window) := m3
                            have z3 := HL11.out.fz 15
                            have hw1 : IntKind.u64.wrap (rk.window + y.size) = rk.window + y.size := by rw [IntKind.wrap_u64]; omega
                            go_wp2_with fail
                            go_region
                            go_wp2_with fail
                            go_roundw
                            case rel =>
                              obtain ⟨f1, f2, f3⟩ := HFIN.out _ { rk with window := rk.window + y.size } HEM.out (HL11.out.put (L' := { setSp L i { L.sp i with list := st, acked := tp } with r := { rk with window := rk.window + y.size } }) 15 (.int .u64 (rk.window + y.size)) rfl (fun _ _ => rfl)).drew (kp_drew (HK11.out.set 15 (.int .u64 (rk.window + y.size))))
                              exact ⟨k + 1, by omega, by simp, f1, f2, f3⟩
                            case measure => simp [intOf]; omega
                          · have em : moreR y rk = { ({ rk with window := rk.window + 1200 * y.size / rk.window } : Rt) with flight := (moreR y rk).flight } := by unfold moreR; simp only []; rw [if_neg hc, if_neg hw]
                            have HEM := Lib.hid em
                            clear em
                            have hmw : IntKind.u64.wrap (1200 * y.size) = 1200 * y.size := by rw [IntKind.wrap_u64]; omega
                            have hd0 : 0 ≤ 1200 * y.size / rk.window := Int.ediv_nonneg (by omega) (by omega)
                            have hd1 : 1200 * y.size / rk.window ≤ 1440000 := Int.le_trans (Int.ediv_le_self _ (by omega)) (by omega)
                            have hdd : (1200 * y.size).tdiv rk.window = 1200 * y.size / rk.window := Int.tdiv_eq_ediv_of_nonneg (by omega)
                            have hwd : IntKind.u64.wrap (1200 * y.size / rk.window) = 1200 * y.size / rk.window := by rw [IntKind.wrap_u64]; omega
                            have hwa : IntKind.u64.wrap (rk.window + 1200 * y.size / rk.window) = rk.window + 1200 * y.size / rk.window := by rw [IntKind.wrap_u64]; omega
                            have hnz : ¬ rk.window = 0 := by omega
                            go_wp2_with fail
                            go_quiet (fail)
                            have HL11 := Lib.hid (HL10.out.drewN nq)
                            have HK11 := Lib.hid (HK10.out.drewN nq)
                            have HB11 := Lib.hid (blk_drewN HB10.out nq)
                            generalize w10.drewN nq = w11 at HL11 HK11 HB11 ⊢
                            clear m3 m4
                            have q2 := blk_cell HB11.out 2
                            obtain ⟨-, -, -, m3, -, -, -, -⟩ := HL11.out.rate
                            have m3 : w11.cell? ⟨q, 15, none⟩ = some (.int .u64 rk.window) := m3
                            have z3 := HL11.out.fz 15
                            go_wp2_with fail
                            go_region
                            go_wp2_with fail
                            go_roundw
                            case rel =>
                              obtain ⟨f1, f2, f3⟩ := HFIN.out _ { rk with window := rk.window + 1200 * y.size / rk.window } HEM.out (HL11.out.put (L' := { setSp L i { L.sp i with list := st, acked := tp } with r := { rk with window := rk.window + 1200 * y.size / rk.window } }) 15 (.int .u64 (rk.window + 1200 * y.size / rk.window)) rfl (fun _ _ => rfl)).drew (kp_drew (HK11.out.set 15 (.int .u64 (rk.window + 1200 * y.size / rk.window))))
                              exact ⟨k + 1, by omega, by simp, f1, f2, f3⟩
                            case measure => simp [intOf]; omega
                      · have ek : got.take k = got := List.take_of_length_le (by omega)
                        rw [ek] at HLr
                        obtain ⟨-, -, -, -, -, -, -, k7⟩ := HLr.out.rate
                        have z7 := HLr.out.fz 19
                        have em : midL i l now L = { setSp L i { L.sp i with list := st, acked := tp } with r := moreAll got r1, tries := 0 } := by
                          unfold midL
                          rw [HXS.out, HGOT.out, HST.out, HAC.out, HTP.out, HLA.out, HR1.out]
                          rfl
                        have HE3 := Lib.hid (em ▸ HE2.out)
                        have HM2 := Lib.hid (em ▸ HMID.out)
                        have LM : RL (wr.setCell ⟨q, 19, none⟩ (.int .i64 0)) q base { setSp L i { L.sp i with list := st, acked := tp } with r := moreAll got r1, tries := 0 } v2 := HLr.out.put 19 (.int .i64 0) rfl (fun _ _ => rfl)
                        have HLM := Lib.hid LM
                        have HKM := Lib.hid (HKr.out.set 19 (.int .i64 0))
                        have HRM := Lib.hid (RE_kp HRr.out ((Kp.refl q wr).set 19 (.int .i64 0)) hpl)
                        have GC := rlost_calls HLM.out HM2.out.b i hi (HM2.out.fl i hi) now ⟨n0, n1⟩
                        have HGC := Lib.hid GC
                        clear GC LM em HLr HKr HRr
                        go_wp2_with fail
                        refine HGC.out.mono ?_
                        rintro e w8 ⟨vl, vs, rfl, L8, R8, S8, K8⟩
                        have HL8 := Lib.hid L8
                        have HR8 := Lib.hid (Kd.R_lower R8 HKM.out.size)
                        have HK8 := Lib.hid (HKM.out.trans K8)
                        have HRa := Lib.hid (RE_kp HRM.out K8 hpl)
                        have HS8 : Hid (∀ j b, j < 3 → (setV v2 i vs j).ownBlock = some b → (v j).ownBlock = some b ∨ w.heap.size ≤ b) := Lib.hid (by
                          intro j b hj e
                          by_cases hji : j = i
                          · subst hji; rw [setV_same] at e; exact .inr (Nat.le_trans HKM.out.size (S8 b e))
                          · rw [setV_other _ _ _ _ hji, ← HV2.out, setV_other _ _ _ _ hji] at e; exact .inl e)
                        obtain ⟨A9, c9, e9, -⟩ := RE_slice HR8.out
                        subst e9
                        clear L8 R8 S8 K8
                        go_wp2_with fail
                        go_ret3
                        rw [HE3.out]
                        exact ⟨_, _, _, rfl, HL8.out, HRa.out, HR8.out, HS8.out, HK8.out⟩
end Go.Proofs.Ytgdboikoejodpaa.RefAck
