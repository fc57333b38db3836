/- The walk of the law FrameAcks: any numbers as an ACK's spans: those that are right go there and back, the others are refused. -/
import Derived.Test.YtmccghadgihbpaaFrameCut
namespace Go.Proofs.Ytmccghadgihbpaa.FrameAcksWalk
open Go Go.RowKit Go.Proofs.Ytmccghadgihbpaa.PFrameBack Go.Proofs.YtmccghadgihbpaaW.PrintWords Go.Proofs.YtmccghadgihbpaaW.PrintLast Go.Proofs.YtmccghadgihbpaaW.PrintMore Go.Proofs.Ytmccghadgihbpaa.Keep Go.Proofs.Ytmccghadgihbpaa.Mem Go.Proofs.Ytmccghadgihbpaa.VPut Go.Proofs.Ytmccghadgihbpaa.VPlain Go.Proofs.Ytmccghadgihbpaa.With Go.Proofs.Ytmccghadgihbpaa.Spans Go.Proofs.Ytmccghadgihbpaa.Encode Go.Proofs.Ytmccghadgihbpaa.EncAck Go.Proofs.Ytmccghadgihbpaa.Frames Go.Proofs.Ytmccghadgihbpaa.Awake11 Go.Proofs.Ytmccghadgihbpaa.FrameEncodesWalk Go.Proofs.Ytmccghadgihbpaa.OpenFrame Go.Proofs.Ytmccghadgihbpaa.ParseS Go.Proofs.Ytmccghadgihbpaa.Parse Go.Proofs.Ytmccghadgihbpaa.Back Go.Proofs.Ytmccghadgihbpaa.CutF Go.Proofs.Ytmccghadgihbpaa.FrameCutWalk
set_option linter.unusedVariables false

theorem vput_none : ∀ {l out : List Int}, (∃ n ∈ l, 4611686018427387904 ≤ n) → vput out l = none
  | [], out, h => by obtain ⟨n, hn, -⟩ := h; cases hn
  | m :: r, out, h => by
    unfold vput
    by_cases hm : m < 4611686018427387904
    · rw [if_pos hm]
      refine vput_none ?_
      obtain ⟨n, hn, h1⟩ := h
      rcases List.mem_cons.1 hn with rfl | hn
      · omega
      · exact ⟨n, hn, h1⟩
    · rw [if_neg hm]

theorem same_l0 (l : List S84) (hl : l.length ≤ 9223372036854775807) : ∀ (m k i : Nat), l.length - i = m → i ≤ l.length → m < k → skiffref10_SameSpans.l0 k l l (i : Int) = some true := by
  intro m
  induction m with
  | zero =>
    intro k i hm hi hk
    obtain ⟨k, rfl⟩ : ∃ q, k = q + 1 := ⟨k - 1, by omega⟩
    simp only [skiffref10_SameSpans.l0]
    rw [if_neg (by omega)]
  | succ m ih =>
    intro k i hm hi hk
    obtain ⟨k, rfl⟩ : ∃ q, k = q + 1 := ⟨k - 1, by omega⟩
    have hlt : i < l.length := by omega
    have e1 : wrap64 ((i : Int) + 1) = ((i + 1 : Nat) : Int) := by unfold wrap64; omega
    simp only [skiffref10_SameSpans.l0]
    rw [if_pos (by omega), if_pos (by omega), if_pos (by omega), e1]
    have hf : ¬ ((!(((rd_T84 l (i : Int)).f0) == ((rd_T84 l (i : Int)).f0)) || (!(((rd_T84 l (i : Int)).f1) == ((rd_T84 l (i : Int)).f1)))) = true) := by simp
    rw [if_neg hf]
    exact ih k (i + 1) (by omega) (by omega) (by omega)
theorem same_calls {w : World} {A0 A1 : Option Addr} {c0 c1 : Nat} {l : List S84} (h0 : Kd.C k84 w A0 l.length l) (hc0 : l.length ≤ c0) (h1 : Kd.C k84 w A1 l.length l) (hc1 : l.length ≤ c1) :
    Calls Try.prog 47 #[.slice A0 l.length c0, .slice A1 l.length c1] w fun e w' => e = .returned (.bool true) ∧ Below w.heap.size w w' := by
  have hl : l.length ≤ 9223372036854775807 := h0.2.1
  refine (skiffref10_SameSpans.calls (l.length + 1) A0 c0 l A1 c1 l true w h0 hc0 h1 hc1 ?_).mono ?_
  · unfold skiffref10_SameSpans.f
    rw [if_pos rfl]
    exact same_l0 l hl l.length _ 0 (by omega) (by omega) (by omega)
  · rintro e w' ⟨rfl, n, rfl⟩
    exact ⟨rfl, pw_below_drewN (Below.refl _ _) n⟩

theorem right_calls {w : World} {A0 : Option Addr} {c0 : Nat} {l : List S84} (hba : bds l) (hl : l.length ≤ 1000) (h0 : Kd.C k84 w A0 l.length l) (hc0 : l.length ≤ c0) :
    Calls Try.prog 46 #[.slice A0 l.length c0] w fun e w' => e = .returned (.bool (okS l)) ∧ Below w.heap.size w w' := by
  refine (skiffref10_Right.calls 2100 A0 c0 l (okS l) w h0 hc0 (right_f hba hl)).mono ?_
  rintro e w' ⟨rfl, n, rfl⟩
  exact ⟨rfl, pw_below_drewN (Below.refl _ _) n⟩

theorem enc_bad {n : Int} {l : List S84} (h : okS l = false) : encF okS ackOf ⟨2, 0, 0, n, 0, false, [], l⟩ = ([], 5) := by
  unfold encF
  rw [if_neg (by simp), if_neg (by simp), if_pos rfl]
  simp [h]
theorem enc_far {n : Int} {l : List S84} (h : okS l = true) (hn : n > 4611686018427387903) : encF okS ackOf ⟨2, 0, 0, n, 0, false, [], l⟩ = ([], 2) := by
  unfold encF
  rw [if_neg (by simp), if_neg (by simp), if_pos rfl]
  simp only [h, if_true]
  unfold withR ackOf
  have : vput [] (ackNums n l) = none := vput_none ⟨n, by unfold ackNums; simp, by omega⟩
  simp only [this]
theorem enc_good {n : Int} {l : List S84} (hb : bds l) (h : okS l = true) (h0 : 0 ≤ n) (hn : n ≤ 4611686018427387903) : encF okS ackOf ⟨2, 0, 0, n, 0, false, [], l⟩ = (flat (ackNums n l), 0) := by
  obtain ⟨p0, p1, p2⟩ : 0 < l.length ∧ l.length ≤ 32 ∧ okFrom l 0 := by unfold okS at h; simpa using h
  have hs : ∀ m ∈ ackNums n l, 0 ≤ m ∧ m < 4611686018427387904 := by
    intro m hm
    unfold ackNums at hm
    rcases List.mem_append.1 hm with hm | hm
    · have q0 := rd_bd hb 0
      have q1 := p2 0 p0 (Nat.le_refl _)
      have q2 := q1.1
      have q3 := q1.2.1
      obtain ⟨⟨a1, a2⟩, a3, a4⟩ := q0
      rw [show ((0 : Nat) : Int) = 0 from rfl] at q2 q3
      simp only [List.mem_cons, List.not_mem_nil, or_false] at hm
      rcases hm with rfl | rfl | rfl | rfl | rfl <;> omega
    · exact gapsN_bd hb p2 (l.length - 1) (by omega) m hm
  unfold encF
  rw [if_neg (by simp), if_neg (by simp), if_pos rfl]
  simp only [h, if_true]
  unfold withR ackOf
  rw [vput_flat _ _ hs]
  simp

set_option maxHeartbeats 4000000 in
set_option maxRecDepth 100000 in
theorem walk {w : World} {A : Option Addr} {c : Nat} {l : List S84} (hC : Kd.C k84 w A l.length l) (hc : l.length ≤ c) (hB : ∀ s ∈ l, B84 s) (n : Int) (hn : wf64 n) :
    Calls Try.prog 16 #[.slice A l.length c, .int .u64 n] w fun e w' => e = .returned (.bool true) ∧ Below w.heap.size w w' := by
  have hba : bds l := fun s hs => ⟨wf64_bd (hB s hs).1, wf64_bd (hB s hs).2⟩
  have hnb := wf64_bd hn
  have hl0 : l.length ≤ 9223372036854775807 := hC.2.1
  have HC := Lib.hid hC
  have HBA := Lib.hid hba
  have HB := Lib.hid hB
  have HN := Lib.hid hn
  obtain ⟨n0, n1⟩ := hnb
  clear hC hba hB hn
  go_enter Try.func16, Try.ntmps16
  go_wp2_with fail
  refine (awake w).mono ?_
  rintro e w2 ⟨rfl, B2⟩
  have HC2 := Lib.hid (Kd.C_below HC.out B2)
  have HB2 := Lib.hid B2
  clear B2 HC
  by_cases hlong : (l.length : Int) > 100
  · go_wp2_with fail
    go_ret
    exact ⟨rfl, HB2.out⟩
  · have EN := enc_any (w := w2) 2 0 0 n 0 false (A6 := none) (c6 := 0) (data := []) (by unfold Encode.bd; omega) (by unfold Encode.bd; omega) (by unfold Encode.bd; omega) ⟨n0, n1⟩ (by unfold Encode.bd; omega) (Kd.C_nil _ _) (by simp) (by simp) HC2.out hc HBA.out (by omega)
    cases hok : okS l with
    | false =>
      rw [enc_bad hok] at EN
      have HEN := Lib.hid EN
      have HOK := Lib.hid hok
      clear EN hok
      go_wp2_with fail
      refine HEN.out.mono ?_
      rintro e w3 ⟨v3, rfl, R3, B3⟩
      obtain ⟨A3, c3, rfl, hc3, hC3, -⟩ := RB.read R3
      have HB3 := Lib.hid (HB2.out.trans (B3.mono HB2.out.size))
      have RC := right_calls HBA.out (by omega) (Kd.C_below HC2.out B3) hc
      rw [HOK.out] at RC
      have HRC := Lib.hid RC
      clear B3 R3 hC3 RC HEN
      go_wp2_with fail
      refine HRC.out.mono ?_
      rintro e w4 ⟨rfl, B4⟩
      have HB4 := Lib.hid (HB3.out.trans (B4.mono HB3.out.size))
      clear B4
      go_wp2_with fail
      go_ret
      exact ⟨rfl, HB4.out⟩
    | true =>
      by_cases hfar : n > 4611686018427387903
      · rw [enc_far hok hfar] at EN
        have HEN := Lib.hid EN
        have HOK := Lib.hid hok
        clear EN hok
        go_wp2_with fail
        refine HEN.out.mono ?_
        rintro e w3 ⟨v3, rfl, R3, B3⟩
        obtain ⟨A3, c3, rfl, hc3, hC3, -⟩ := RB.read R3
        have HB3 := Lib.hid (HB2.out.trans (B3.mono HB2.out.size))
        have RC := right_calls HBA.out (by omega) (Kd.C_below HC2.out B3) hc
        rw [HOK.out] at RC
        have HRC := Lib.hid RC
        clear B3 R3 hC3 RC HEN
        go_wp2_with fail
        refine HRC.out.mono ?_
        rintro e w4 ⟨rfl, B4⟩
        have HB4 := Lib.hid (HB3.out.trans (B4.mono HB3.out.size))
        clear B4
        go_wp2_with fail
        go_ret
        exact ⟨rfl, HB4.out⟩
      · have hgood := enc_good HBA.out hok n0 (by omega)
        have hBx : B58 ⟨2, 0, 0, n, 0, false, [], l⟩ := ⟨show wf64 2 from (by unfold wf64; decide), show wf64 0 from (by unfold wf64; decide), show wf64 0 from (by unfold wf64; decide), HN.out, show wf64 0 from (by unfold wf64; decide), trivial, ⟨by simp, by simp⟩, ⟨hl0, HB.out⟩⟩
        have hsh : Back.shape ⟨2, 0, 0, n, 0, false, [], l⟩ (ackNums n l) := .inl ⟨rfl, hok, rfl, rfl⟩
        obtain ⟨l9, hsh9, hsm9, hbb9⟩ := enc_shape hBx hgood
        have hl9 : l9 = ackNums n l := by
          rcases hsh9 with ⟨-, -, -, h⟩ | ⟨h, -⟩
          · exact h
          · exact absurd rfl h
        subst hl9
        have hp := parse_one hBx hsh hsm9 (by simp)
        have hbl := (bytes_len hsh (by simp)).2
        have hbf := bytes_fit hBx hsm9
        rw [hgood] at EN
        rw [← hbb9] at hp hbl hbf
        generalize flat (ackNums n l) = bb at *
        have hnorm : normF ⟨2, 0, 0, n, 0, false, [], l⟩ = ⟨2, 0, 0, n, 0, false, [], l⟩ := by unfold normF; rw [if_pos rfl]
        rw [hnorm] at hp
        have HEN := Lib.hid EN
        have HOK := Lib.hid hok
        have HP := Lib.hid hp
        have HBF := Lib.hid hbf
        clear EN hok hp hbf hgood hBx hsh hsh9 hsm9 hbb9 hnorm
        go_wp2_with fail
        refine HEN.out.mono ?_
        rintro e w3 ⟨v3, rfl, R3, B3⟩
        obtain ⟨A3, c3, rfl, hc3, hC3, -⟩ := RB.read R3
        have HB3 := Lib.hid (HB2.out.trans (B3.mono HB2.out.size))
        have HC3 := Lib.hid (Kd.C_below HC2.out B3)
        have HD3 := Lib.hid hC3
        have RC := right_calls HBA.out (by omega) HC3.out hc
        rw [HOK.out] at RC
        have HRC := Lib.hid RC
        clear B3 R3 hC3 RC HEN HC2
        go_wp2_with fail
        refine HRC.out.mono ?_
        rintro e w4 ⟨rfl, B4⟩
        have HB4 := Lib.hid (HB3.out.trans (B4.mono HB3.out.size))
        have HC4 := Lib.hid (Kd.C_below HC3.out B4)
        have TC := parse_calls (w := w4) (Kd.C_below HD3.out B4) hc3 HBF.out (by omega)
        rw [HP.out] at TC
        have HTC := Lib.hid TC
        clear B4 HRC TC HC3 HD3
        go_wp2_with fail
        refine HTC.out.mono ?_
        rintro e w5 ⟨v5, rfl, R5, B5⟩
        obtain ⟨A5, c5, e5, hc5, hC5⟩ := Kd.R_reads R5
        subst e5
        have HB5 := Lib.hid (HB4.out.trans (B5.mono HB4.out.size))
        obtain ⟨ad, A6, c6, A7, c7, e9, k0, k1, k2, k3, k4, k5, k6, k7, l6, g6, l7, g7⟩ := at_T58 hC5 0 (by omega) (by simp)
        subst e9
        simp only [rd_T58, Int.toNat_zero, List.getD_cons_zero, Nat.zero_mul, Addr.add_zero'] at k0 k1 k2 k3 k4 k5 k6 k7 l6 g6 l7 g7
        have SC := same_calls g7 l7 (Kd.C_below HC4.out B5) hc
        have HSC := Lib.hid SC
        clear R5 B5 HTC hC5 g6 g7 SC
        go_wp2_with fail
        refine HSC.out.mono ?_
        rintro e w6 ⟨rfl, B6⟩
        have j3 := pw_cell_below B6 k3
        have HB6 := Lib.hid (HB5.out.trans (B6.mono HB5.out.size))
        clear k0 k1 k2 k3 k4 k5 k6 k7 B6
        go_wp2_with fail
        go_ret
        exact ⟨rfl, HB6.out⟩
end Go.Proofs.Ytmccghadgihbpaa.FrameAcksWalk
