/- The walks of frame.data and frame.acks. -/
import Derived.Test.YtmccghadgihbpaaParseS
import Derived.Test.YtmccghadgihbpaaMemU
import Derived.Deep.Cut
import Derived.Deep.CutBlock
namespace Go.Proofs.Ytmccghadgihbpaa.ParseW
open Go Go.RowKit Go.Proofs.Ytmccghadgihbpaa.PFrameBack Go.Proofs.YtmccghadgihbpaaW.PrintWords Go.Proofs.YtmccghadgihbpaaW.PrintLast Go.Proofs.YtmccghadgihbpaaW.PrintMore Go.Proofs.Ytmccghadgihbpaa.Keep Go.Proofs.Ytmccghadgihbpaa.Mem Go.Proofs.Ytmccghadgihbpaa.Reader Go.Proofs.Ytmccghadgihbpaa.Take Go.Proofs.Ytmccghadgihbpaa.ParseS
set_option linter.unusedVariables false

set_option maxHeartbeats 1000000 in
theorem data_calls {w : World} {p d : Nat} {c : Int} {xs : List Int} (r : Rdr w p d c xs) (hl : xs.length ≤ 10000000) :
    Calls Try.prog 55 #[.pointer (some ⟨p, 0, none⟩)] w fun e w' => ∃ v, e = .returned v ∧ RB w' w.heap.size v (dataR c xs).1 ∧ Rdr w' p d (dataR c xs).2.1 (dataR c xs).2.2 ∧ Kp p w w' := by
  obtain ⟨t, ht⟩ : ∃ t, dataR c xs = t := ⟨_, rfl⟩
  rw [ht]
  have N := num_calls r (by omega)
  have hx := rNum_bd (c := c) r.2.1
  have hln := rNum_len c xs
  unfold dataR at ht
  generalize rNum c xs = a at *
  obtain ⟨n, c1, x1⟩ := a
  simp only at N hx hln ht
  obtain ⟨n0, n1⟩ := hx
  have HT := Lib.hid ht
  have HN := Lib.hid N
  clear ht N r
  go_enter Try.func55, Try.ntmps55
  by_cases hn : n > 2048
  · go_wp2_with fail
    refine HN.out.mono ?_
    rintro e w1 ⟨rfl, D1, K1⟩
    have HD1 := Lib.hid D1
    have HK1 := Lib.hid K1
    clear D1 K1 HN
    go_wp2_with fail
    refine (fail_calls HD1.out 8).mono ?_
    rintro e w2 ⟨rfl, D2, K2⟩
    have HD2 := Lib.hid D2
    have HK2 := Lib.hid (HK1.out.trans K2)
    clear D2 K2 HD1 HK1
    go_wp2_with fail
    refine (bytes_calls HD2.out n n0 (by omega)).mono ?_
    rintro e w3 ⟨v, rfl, R3, D3, K3⟩
    have et := HT.out
    rw [if_pos hn] at et
    rw [et] at R3 D3
    have HR3 := Lib.hid (Kd.R_lower R3 HK2.out.size)
    have HD3 := Lib.hid D3
    have HK3 := Lib.hid (HK2.out.trans K3)
    clear R3 D3 K3 HK2 HD2 et
    go_wp2_with fail
    go_ret
    exact ⟨_, rfl, HR3.out, HD3.out, HK3.out⟩
  · go_wp2_with fail
    refine HN.out.mono ?_
    rintro e w1 ⟨rfl, D1, K1⟩
    have HD2 := Lib.hid D1
    have HK2 := Lib.hid K1
    clear D1 K1 HN
    go_wp2_with fail
    refine (bytes_calls HD2.out n n0 (by omega)).mono ?_
    rintro e w3 ⟨v, rfl, R3, D3, K3⟩
    have et := HT.out
    rw [if_neg (by omega)] at et
    rw [et] at R3 D3
    have HR3 := Lib.hid (Kd.R_lower R3 HK2.out.size)
    have HD3 := Lib.hid D3
    have HK3 := Lib.hid (HK2.out.trans K3)
    clear R3 D3 K3 HK2 HD2 et
    go_wp2_with fail
    go_ret
    exact ⟨_, rfl, HR3.out, HD3.out, HK3.out⟩

theorem cells8 {w : World} {b : Nat} {x : S58} {v6 v7 : Value} {T : TypeId} (h : w.heap[b]? = some (.cells (boxOf x v6 v7) T (0, 0))) :
    w.cell? ⟨b, 0, none⟩ = some (.int .u64 x.f0) ∧ w.cell? ⟨b, 1, none⟩ = some (.int .u64 x.f1) ∧ w.cell? ⟨b, 2, none⟩ = some (.int .u64 x.f2) ∧ w.cell? ⟨b, 3, none⟩ = some (.int .u64 x.f3) ∧ w.cell? ⟨b, 4, none⟩ = some (.int .u64 x.f4) ∧ w.cell? ⟨b, 5, none⟩ = some (.bool x.f5) ∧ w.cell? ⟨b, 6, none⟩ = some v6 ∧ w.cell? ⟨b, 7, none⟩ = some v7 :=
  ⟨blk_cell h 0, blk_cell h 1, blk_cell h 2, blk_cell h 3, blk_cell h 4, blk_cell h 5, blk_cell h 6, blk_cell h 7⟩

theorem ends {W : World} {tmps : Array Value} {hb : Nat} {f : Func} {c0 c1 c2 c3 c4 c5 c6 c7 : Value} (hr : f.results = #[.cell 2 58]) (h2 : tmps.getD 2 undef = .pointer (some ⟨hb, 0, none⟩))
    (hk : W.heap[hb]? = some (.cells #[c0, c1, c2, c3, c4, c5, c6, c7] 58 (0, 0))) : (results f tmps).run Try.prog W = .ok (.agg #[c0, c1, c2, c3, c4, c5, c6, c7]) W := by
  have k0 := blk_cell hk 0; have k1 := blk_cell hk 1; have k2 := blk_cell hk 2; have k3 := blk_cell hk 3
  have k4 := blk_cell hk 4; have k5 := blk_cell hk 5; have k6 := blk_cell hk 6; have k7 := blk_cell hk 7
  unfold results
  rw [hr]
  have hu := Try.underlying58
  rw [Array.getD_eq_getD_getElem?] at h2
  simp [go_sem, h2, k0, k1, k2, k3, k4, k5, k6, k7]

theorem info84 : (Try.prog.info? 84).map (fun i => (i.zero, i.size, i.bytes)) = some (some (.agg #[.int .u64 0, .int .u64 0]), 2, 16) := by kernel_rfl

/-- 'append(l, s)', spans: one, laid into a block of its own just ahead. -/
theorem app84 {ops : Array Oper} {rest : List Oper} {o : Oper} {a : Act} {Q : Exit → Act → World → Prop} {W w0 : World} (base : Nat) (hgd : o.guard = none) (s x : Operand) (ho : o.op = .call { callee := .builtin .append, args := #[s, x], argTypes := #[56, 56] })
    {v : Value} {xs : List S84} {q : S84} (HO : k84.R 84 W base (fun _ => True) v xs) (hs : a.eval s = v) (hx : a.eval x = .slice (some ⟨W.heap.size, 0, none⟩) 1 1) (hB : Below base w0 W) (hbase : base ≤ W.heap.size)
    (hl : xs.length + 1 ≤ 1000000)
    (h : ∀ v1 w1, k84.R 84 w1 base (fun _ => True) v1 (xs ++ [q]) → Below base w0 w1 → W.grownBy w1 v.ownBlock → (v1.ownBlock = v.ownBlock ∨ ∃ b, v1.ownBlock = some b ∧ W.heap.size ≤ b) → wpList Try.prog ops Q rest (a.put o.dst v1) w1) : wpList Try.prog ops Q (o :: rest) a (W.alloc (.cells #[.int .u64 q.f0, .int .u64 q.f1] 84)) :=
  Kd.R_append k84 (w0 := w0) base hgd s x 56 84 (.agg #[.int .u64 0, .int .u64 0]) 16 ho Try.underlying56 info84 rfl (by decide) (by decide) v xs q [.int .u64 q.f0, .int .u64 q.f1] (fun _ => True) (fun _ => False) hs hx (k84_mkM _ _ _ q) (fun _ hk => hk.elim) (fun _ _ => trivial) HO hB hbase (by omega) h

/-- The fault, where an ACK's loop comes to its end. -/
def acksQ (c : Int) (m : Nat) (lo hi : Int) (xs : List Int) (acc : List S84) : List S84 × Int × List Int := if c ≠ 0 then (acc, c, xs) else acksL m lo hi xs acc

theorem acksL_gt {m : Nat} {lo hi : Int} {xs : List Int} {acc : List S84} (h : lo > hi) : acksL m lo hi xs acc = (acc, 5, xs) := by
  cases m <;> (unfold acksL; rw [if_pos h])

theorem R_slice {α : Type} {dd : Kd α} {e base : Nat} {w : World} {ok : Nat → Prop} {v : Value} {l : List α} (h : dd.R e w base ok v l) : ∃ A n c, v = .slice A n c := by
  obtain ⟨A, c, rfl, -, -⟩ := Kd.R_reads h
  exact ⟨A, _, c, rfl⟩

theorem grow_blk {w0 w w1 : World} {p d fb : Nat} {c : Int} {xs : List Int} {x : S58} {v6 v7 : Value} (s : St w0 w p d fb c xs x v6 v7) (B : Below (fb + 1) w w1) : w1.heap[fb]? = some (.cells (boxOf x v6 v7) 58 (0, 0)) := (B.block fb (by omega)).trans s.blk

/-- The spans have grown, and are laid into their field. -/
theorem grow_put {w0 w w1 : World} {p d fb : Nat} {c : Int} {xs : List Int} {n : Int} {a l : List S84} {v7 u7 : Value} (s : St w0 w p d fb c xs (fr 0 0 0 n 0 false [] a) (.slice none 0 0) v7) (B : Below (fb + 1) w w1) (h7 : k84.R 84 w1 (fb + 1) (fun _ => True) u7 l) :
    St w0 (w1.setCell ⟨fb, 7, none⟩ u7) p d fb c xs (fr 0 0 0 n 0 false [] l) (.slice none 0 0) u7 := by
  have h1 := s.fb0; have h2 := s.p0; have h3 := s.d0
  have hb := blk_set (grow_blk s B) 7 u7
  have hkp : Kp fb w1 (w1.setCell ⟨fb, 7, none⟩ u7) := (Kp.refl fb w1).set 7 u7
  have hsz := B.size
  have hws := s.kp.size
  refine ⟨(s.rdr.stays B.size (B.block p (by omega)) (fun _ => B.block d (by omega))).keep hkp (by omega) (by omega), hb, Kd.R_nil _ _ _ _ _, hkp.R h7 (by omega), ⟨B.os.trans s.kp.os, B.tape.trans s.kp.tape, B.output.trans s.kp.output, Nat.le_trans s.kp.size (Nat.le_trans B.size hkp.size), fun k hk hp => ?_⟩, h1, h2, h3⟩
  rw [hkp.block k (by omega) (by omega), B.block k (by omega)]
  exact s.kp.block k hk hp

set_option maxHeartbeats 4000000 in
set_option maxRecDepth 100000 in
theorem acks_calls {w : World} {p d : Nat} {c : Int} {xs : List Int} (r : Rdr w p d c xs) (hl : xs.length ≤ 10000000) (hd : d < w.heap.size) :
    Calls Try.prog 54 #[.pointer (some ⟨p, 0, none⟩)] w fun e w' => ∃ v7, e = .returned (.agg (boxOf (fr 0 0 0 (acksR c xs).2.1 0 false [] (acksR c xs).1) (.slice none 0 0) v7)) ∧ k84.R 84 w' (w.heap.size + 1) (fun _ => True) v7 (acksR c xs).1 ∧ Rdr w' p d (acksR c xs).2.2.1 (acksR c xs).2.2.2 ∧ Kp p w w' := by
  have S0 := Lib.hid (St.new r (Kp.refl p w) r.1 hd)
  obtain ⟨t, ht⟩ : ∃ t, acksR c xs = t := ⟨_, rfl⟩
  rw [ht]
  have N1 := num_st S0.out (by omega)
  have hx := r.2.1
  obtain ⟨a1, hA1⟩ : ∃ a, rNum c xs = a := ⟨_, rfl⟩
  obtain ⟨a2, hA2⟩ : ∃ a, rNum a1.2.1 a1.2.2 = a := ⟨_, rfl⟩
  obtain ⟨a3, hA3⟩ : ∃ a, rNum a2.2.1 a2.2.2 = a := ⟨_, rfl⟩
  obtain ⟨a4, hA4⟩ : ∃ a, rNum a3.2.1 a3.2.2 = a := ⟨_, rfl⟩
  have b1 := rNum_bd (c := c) hx
  have y1 := rNum_rest_bd (c := c) hx
  have l1 := rNum_len c xs
  rw [hA1] at b1 y1 l1
  have b2 := rNum_bd (c := a1.2.1) y1
  have y2 := rNum_rest_bd (c := a1.2.1) y1
  have l2 := rNum_len a1.2.1 a1.2.2
  rw [hA2] at b2 y2 l2
  have b3 := rNum_bd (c := a2.2.1) y2
  have y3 := rNum_rest_bd (c := a2.2.1) y2
  have l3 := rNum_len a2.2.1 a2.2.2
  rw [hA3] at b3 y3 l3
  have b4 := rNum_bd (c := a3.2.1) y3
  have y4 := rNum_rest_bd (c := a3.2.1) y3
  have l4 := rNum_len a3.2.1 a3.2.2
  rw [hA4] at b4 y4 l4
  unfold acksR at ht
  simp only [hA1, hA2, hA3, hA4] at ht
  rw [hA1] at N1
  have HT := Lib.hid ht
  have HN1 := Lib.hid N1
  have HA2 := Lib.hid hA2
  have HA3 := Lib.hid hA3
  have HA4 := Lib.hid hA4
  have HR := Lib.hid r
  have HY4 := Lib.hid y4
  clear ht N1 r hx y1 y2 y3 y4 hA1 hA2 hA3 hA4
  obtain ⟨h1, c1, x1⟩ := a1
  obtain ⟨n2, c2, x2⟩ := a2
  obtain ⟨m3, c3, x3⟩ := a3
  obtain ⟨l4', c4, x4⟩ := a4
  simp only at *
  go_enter Try.func54, Try.ntmps54
  go_wp2_with fail
  refine HN1.out.mono ?_
  rintro e w1 ⟨rfl, S1⟩
  have HS1 := Lib.hid S1
  clear S1 HN1
  have N2 := num_st HS1.out (by omega)
  rw [HA2.out] at N2
  have HN2 := Lib.hid N2
  clear N2
  go_wp2_with fail
  refine HN2.out.mono ?_
  rintro e w2 ⟨rfl, S2⟩
  have hb2 : w.heap.size < w2.heap.size := blk_lt S2.blk
  have fz := blk_frozen S2.blk 3
  obtain ⟨k0, k1, k2, k3, k4, k5, k6, k7⟩ := cells8 S2.blk
  have S2b := S2.put 3 (u := .int .u64 n2) (y := fr 0 0 0 n2 0 false [] []) (u6 := .slice none 0 0) (u7 := .slice none 0 0) rfl S2.r6 S2.r7
  have HS2 := Lib.hid S2b
  have N3 := num_st HS2.out (by omega)
  rw [HA3.out] at N3
  have HN3 := Lib.hid N3
  clear S2 S2b N3 HS1 HN2
  go_wp2_with fail
  clear k0 k1 k2 k3 k4 k5 k6 k7 fz
  refine HN3.out.mono ?_
  rintro e w3 ⟨rfl, S3⟩
  have HS3 := Lib.hid S3
  have N4 := num_st HS3.out (by omega)
  rw [HA4.out] at N4
  have HN4 := Lib.hid N4
  clear S3 N4 HN3 HS2
  go_wp2_with fail
  refine HN4.out.mono ?_
  rintro e w4 ⟨rfl, S4⟩
  have HS4 := Lib.hid S4
  clear S4 HN4 HS3
  go_upto_if 18 with fail
  obtain ⟨c5, hc5⟩ : ∃ c5, (if m3 ≥ 32 then rFail 7 c4 else c4) = c5 := ⟨_, rfl⟩
  have ht := HT.out
  rw [hc5] at ht
  have HT2 := Lib.hid ht
  clear ht HT
  go_cut [3] from 8 (fun v3 wc => v3 = .int .u64 h1 ∧ Hid (St w wc p d w.heap.size c5 x4 (fr 0 0 0 n2 0 false [] []) (.slice none 0 0) (.slice none 0 0)) ∧ (c5 = 0 → m3 < 32))
  case first =>
    by_cases hm : m3 ≥ 32
    · rw [if_pos hm] at hc5
      have HC5 := Lib.hid hc5
      clear hc5
      go_wp2_with fail
      refine (fail_st HS4.out 7).mono ?_
      rintro e w5 ⟨rfl, S5⟩
      rw [HC5.out] at S5
      have HS5 := Lib.hid S5
      have hz : c5 = 0 → m3 < 32 := by
        intro h0
        have := HC5.out
        unfold rFail at this
        split at this <;> omega
      have HZ := Lib.hid hz
      clear S5 hz
      go_wp2_with fail
      go_meet
      case rel => exact ⟨rfl, HS5, HZ.out⟩
    · rw [if_neg hm] at hc5
      subst hc5
      go_wp2_with fail
      go_meet
      case rel => exact ⟨rfl, HS4, fun _ => by omega⟩
  case rest =>
    obtain ⟨rfl, HS5, hz⟩ := hcut
    have HZ := Lib.hid hz
    clear hz hc5 HS4
    go_wp2_with fail
    go_loopw [3, 4, 5] (fun hi many lo wr => ∃ (h m l c : Int) (xs : List Int) (acc : List S84) (v7 : Value), hi = .int .u64 h ∧ many = .int .u64 m ∧ lo = .int .u64 l ∧ 0 ≤ h ∧ h < 18446744073709551616 ∧ 0 ≤ m ∧ m < 4611686018427387904 ∧ 0 ≤ l ∧ l < 4611686018427387904 ∧ xs.length ≤ 10000000 ∧ Hid (St w wr p d w.heap.size c xs (fr 0 0 0 n2 0 false [] acc) (.slice none 0 0) v7) ∧ Hid (c = 0 → acc.length + m.toNat < 32) ∧ Hid (t = ((acksQ c m.toNat l h xs acc).1, n2, (acksQ c m.toNat l h xs acc).2))) (fun _ m _ _ => (intOf m).toNat)
    case atStart =>
      exact ⟨h1, m3, l4', c5, x4, [], .slice none 0 0, rfl, rfl, rfl, b1.1, by omega, b3.1, b3.2, b4.1, b4.2, by omega, HS5, Lib.hid (fun h0 => by have := HZ.out h0; simp only [List.length_nil]; omega), Lib.hid (by rw [← HT2.out]; unfold acksQ; by_cases h0 : c5 = 0 <;> simp [h0])⟩
    case round =>
      obtain ⟨h, m, l, c, xs, acc, v7, rfl, rfl, rfl, bh0, bh1, bm0, bm1, bl0, bl1, hxl, HS, HL, HTT⟩ := hrel
      clear HT2 HZ HS5 HY4
      by_cases hc : c = 0
      · subst hc
        have hac := HL.out rfl
        by_cases hlo : l > h
        · go_wp2_with fail
          refine (code_st HS.out).mono ?_
          rintro e w6 ⟨rfl, rfl⟩
          go_wp2_with fail
          refine (fail_st HS.out 5).mono ?_
          rintro e w7 ⟨rfl, S7⟩
          have HS7 := Lib.hid S7
          clear S7
          obtain ⟨A9, n9, c9, e9⟩ := R_slice HS7.out.r7
          subst e9
          obtain ⟨k0, k1, k2, k3, k4, k5, k6, k7⟩ := cells8 HS7.out.blk
          have z0 := blk_frozen HS7.out.blk 0; have z1 := blk_frozen HS7.out.blk 1; have z2 := blk_frozen HS7.out.blk 2; have z3 := blk_frozen HS7.out.blk 3
          have z4 := blk_frozen HS7.out.blk 4; have z5 := blk_frozen HS7.out.blk 5; have z6 := blk_frozen HS7.out.blk 6; have z7 := blk_frozen HS7.out.blk 7
          go_wp2_with fail
          clear k0 k1 k2 k3 k4 k5 k6 k7 z0 z1 z2 z3 z4 z5 z6 z7
          have hz := HS7.out.again
          have HZ9 := Lib.hid hz
          clear hz
          refine bodyPost_ret (ends (by kernel_rfl) rfl HZ9.out.blk) rfl ?_
          have et := HTT.out
          unfold acksQ at et
          rw [if_neg (by simp), acksL_gt hlo] at et
          subst et
          exact ⟨_, rfl, HZ9.out.r7, HZ9.out.rdr, HZ9.out.kp⟩
        · have hws : IntKind.u64.wrap (h - l) = h - l := by rw [IntKind.wrap_u64]; omega
          have hb0 : w.heap.size < wr.heap.size := blk_lt HS.out.blk
          go_upto_region 10 with fail
          refine (code_st HS.out).mono ?_
          rintro e w6 ⟨rfl, rfl⟩
          go_upto_region 10 with fail
          obtain ⟨k0, k1, k2, k3, k4, k5, k6, k7⟩ := cells8 HS.out.blk
          by_cases hm0 : m = 0
          · go_upto_region 18 with (first
              | ((with_reducible refine gate_builtin (b := .append) (xs := #[.tmp 32, .tmp 38]) rfl ?_); refine app84 (w0 := wr) (w.heap.size + 1) rfl (.tmp 32) (.tmp 38) rfl (xs := acc) (q := ⟨h - l, h⟩) HS.out.r7 rfl rfl (Below.refl _ _) hb0 (show acc.length + 1 ≤ 1000000 by omega) ?_; intro v8 w8 R8 B8 G8 N8; clear G8 N8; obtain ⟨A8, n8, c8, e8⟩ := R_slice R8; subst e8; clear k0 k1 k2 k3 k4 k5 k6 k7; obtain ⟨k0, k1, k2, k3, k4, k5, k6, k7⟩ := cells8 (grow_blk HS.out B8); have fz := blk_frozen (grow_blk HS.out B8) 7))
            have HS9 := Lib.hid (grow_put HS.out B8 R8)
            clear R8 B8 k0 k1 k2 k3 k4 k5 k6 k7 fz
            obtain ⟨k0, k1, k2, k3, k4, k5, k6, k7⟩ := cells8 HS9.out.blk
            have z0 := blk_frozen HS9.out.blk 0; have z1 := blk_frozen HS9.out.blk 1; have z2 := blk_frozen HS9.out.blk 2; have z3 := blk_frozen HS9.out.blk 3
            have z4 := blk_frozen HS9.out.blk 4; have z5 := blk_frozen HS9.out.blk 5; have z6 := blk_frozen HS9.out.blk 6; have z7 := blk_frozen HS9.out.blk 7
            go_wp2_with fail
            clear k0 k1 k2 k3 k4 k5 k6 k7 z0 z1 z2 z3 z4 z5 z6 z7
            have hz := HS9.out.again
            have HZ9 := Lib.hid hz
            clear hz
            refine bodyPost_ret (ends (by kernel_rfl) rfl HZ9.out.blk) rfl ?_
            have et := HTT.out
            unfold acksQ at et
            rw [if_neg (by simp), hm0, show (0 : Int).toNat = 0 from rfl] at et
            unfold acksL at et
            rw [if_neg (by omega)] at et
            subst et
            exact ⟨_, rfl, HZ9.out.r7, HZ9.out.rdr, HZ9.out.kp⟩
          · obtain ⟨m', hm'⟩ : ∃ m' : Nat, m = m' + 1 := ⟨(m - 1).toNat, by omega⟩
            obtain ⟨g, hg⟩ : ∃ g, rNum 0 xs = g := ⟨_, rfl⟩
            obtain ⟨g2, hg2⟩ : ∃ g2, rNum g.2.1 g.2.2 = g2 := ⟨_, rfl⟩
            have hx := HS.out.rdr.2.1
            have b5 := rNum_bd (c := 0) hx
            have y5 := rNum_rest_bd (c := 0) hx
            have l5 := rNum_len 0 xs
            rw [hg] at b5 y5 l5
            have b6 := rNum_bd (c := g.2.1) y5
            have l6 := rNum_len g.2.1 g.2.2
            rw [hg2] at b6 l6
            have htt := HTT.out
            unfold acksQ at htt
            rw [if_neg (by simp), show m.toNat = m' + 1 by omega] at htt
            unfold acksL at htt
            rw [if_neg (by omega), hg, hg2] at htt
            obtain ⟨gv, cg, xg⟩ := g
            obtain ⟨lv, c2, x2⟩ := g2
            simp only at b5 y5 l5 b6 l6 htt hg2
            have HTT2 := Lib.hid htt
            have HG := Lib.hid hg
            have HG2 := Lib.hid hg2
            obtain ⟨b50, b51⟩ := b5
            obtain ⟨b60, b61⟩ := b6
            clear htt hg hg2 hx y5 HTT
            go_wp2_with (first
              | ((with_reducible refine gate_builtin (b := .append) (xs := #[.tmp 32, .tmp 38]) rfl ?_); refine app84 (w0 := wr) (w.heap.size + 1) rfl (.tmp 32) (.tmp 38) rfl (xs := acc) (q := ⟨h - l, h⟩) HS.out.r7 rfl rfl (Below.refl _ _) hb0 (show acc.length + 1 ≤ 1000000 by omega) ?_; intro v8 w8 R8 B8 G8 N8; clear G8 N8; obtain ⟨A8, n8, c8, e8⟩ := R_slice R8; subst e8; clear k0 k1 k2 k3 k4 k5 k6 k7; obtain ⟨k0, k1, k2, k3, k4, k5, k6, k7⟩ := cells8 (grow_blk HS.out B8); have fz := blk_frozen (grow_blk HS.out B8) 7))
            have HS9 := Lib.hid (grow_put HS.out B8 R8)
            have NA := num_st HS9.out (by omega)
            rw [HG.out] at NA
            have HNA := Lib.hid NA
            clear NA R8 B8 k0 k1 k2 k3 k4 k5 k6 k7 fz
            refine HNA.out.mono ?_
            rintro e w10 ⟨rfl, S10⟩
            have HS10 := Lib.hid S10
            have NB := num_st HS10.out (show xg.length ≤ 140737488355328 by omega)
            rw [HG2.out] at NB
            have HNB := Lib.hid NB
            clear NB S10 HNA HS9
            go_wp2_with fail
            refine HNB.out.mono ?_
            rintro e w11 ⟨rfl, S11⟩
            have HS11 := Lib.hid S11
            clear S11 HNB HS10
            by_cases hc2 : c2 = 0
            · subst hc2
              by_cases hgap : gv + 2 > h - l
              · go_wp2_with fail
                refine (code_st HS11.out).mono ?_
                rintro e w12 ⟨rfl, rfl⟩
                go_wp2_with fail
                refine (fail_st HS11.out 5).mono ?_
                rintro e w13 ⟨rfl, S13⟩
                have HS13 := Lib.hid S13
                clear S13
                obtain ⟨k0, k1, k2, k3, k4, k5, k6, k7⟩ := cells8 HS13.out.blk
                have z0 := blk_frozen HS13.out.blk 0; have z1 := blk_frozen HS13.out.blk 1; have z2 := blk_frozen HS13.out.blk 2; have z3 := blk_frozen HS13.out.blk 3
                have z4 := blk_frozen HS13.out.blk 4; have z5 := blk_frozen HS13.out.blk 5; have z6 := blk_frozen HS13.out.blk 6; have z7 := blk_frozen HS13.out.blk 7
                go_wp2_with fail
                clear k0 k1 k2 k3 k4 k5 k6 k7 z0 z1 z2 z3 z4 z5 z6 z7
                have hz := HS13.out.again
                have HZ9 := Lib.hid hz
                clear hz
                refine bodyPost_ret (ends (by kernel_rfl) rfl HZ9.out.blk) rfl ?_
                have et := HTT2.out
                rw [if_neg (by simp), if_pos hgap] at et
                subst et
                exact ⟨_, rfl, HZ9.out.r7, HZ9.out.rdr, HZ9.out.kp⟩
              · have hw2 : IntKind.u64.wrap (h - l - gv) = h - l - gv := by rw [IntKind.wrap_u64]; omega
                have hw3 : IntKind.u64.wrap (h - l - gv - 2) = h - l - gv - 2 := by rw [IntKind.wrap_u64]; omega
                go_wp2_with fail
                refine (code_st HS11.out).mono ?_
                rintro e w12 ⟨rfl, rfl⟩
                go_wp2_with fail
                go_roundw
                case rel => exact ⟨h - l - gv - 2, (m' : Int), lv, 0, x2, acc ++ [⟨h - l, h⟩], _, rfl, rfl, rfl, by omega, by omega, by omega, by omega, b60, b61, by omega, HS11, Lib.hid (fun _ => by rw [List.length_append]; simp only [List.length_cons, List.length_nil]; omega), Lib.hid (by have et := HTT2.out; rw [if_neg (by simp), if_neg (by omega)] at et; unfold acksQ; rw [if_neg (by simp), show ((m' : Int)).toNat = m' by omega]; exact et)⟩
                case measure => simp [intOf]; omega
            · have t0 : (c2 == 0) = false := by simp [hc2]
              have HC2 := Lib.hid hc2
              clear hc2
              have hw2 : 0 ≤ IntKind.u64.wrap (h - l - gv) ∧ IntKind.u64.wrap (h - l - gv) < 18446744073709551616 := by rw [IntKind.wrap_u64]; omega
              go_wp2_with fail
              refine (code_st HS11.out).mono ?_
              rintro e w12 ⟨rfl, rfl⟩
              go_wp2_with fail
              go_roundw
              case rel => exact ⟨_, (m' : Int), lv, c2, x2, acc ++ [⟨h - l, h⟩], _, rfl, rfl, rfl, by first | omega | (rw [IntKind.wrap_u64]; omega), by first | omega | (rw [IntKind.wrap_u64]; omega), by omega, by omega, b60, b61, by omega, HS11, Lib.hid (fun h0 => absurd h0 HC2.out), Lib.hid (by have et := HTT2.out; rw [if_pos HC2.out] at et; unfold acksQ; rw [if_pos HC2.out]; exact et)⟩
              case measure => simp [intOf]; omega
      · have t0 : (c == 0) = false := by simp [hc]
        have HC := Lib.hid hc
        clear hc
        go_wp2_with fail
        refine (code_st HS.out).mono ?_
        rintro e w6 ⟨rfl, rfl⟩
        obtain ⟨A9, n9, c9, e9⟩ := R_slice HS.out.r7
        subst e9
        obtain ⟨k0, k1, k2, k3, k4, k5, k6, k7⟩ := cells8 HS.out.blk
        have z0 := blk_frozen HS.out.blk 0; have z1 := blk_frozen HS.out.blk 1; have z2 := blk_frozen HS.out.blk 2; have z3 := blk_frozen HS.out.blk 3
        have z4 := blk_frozen HS.out.blk 4; have z5 := blk_frozen HS.out.blk 5; have z6 := blk_frozen HS.out.blk 6; have z7 := blk_frozen HS.out.blk 7
        go_wp2_with fail
        clear k0 k1 k2 k3 k4 k5 k6 k7 z0 z1 z2 z3 z4 z5 z6 z7
        have hz := HS.out.again
        have HZ9 := Lib.hid hz
        clear hz
        refine bodyPost_ret (ends (by kernel_rfl) rfl HZ9.out.blk) rfl ?_
        have et := HTT.out
        unfold acksQ at et
        rw [if_pos HC.out] at et
        subst et
        exact ⟨_, rfl, HZ9.out.r7, HZ9.out.rdr, HZ9.out.kp⟩
end Go.Proofs.Ytmccghadgihbpaa.ParseW
