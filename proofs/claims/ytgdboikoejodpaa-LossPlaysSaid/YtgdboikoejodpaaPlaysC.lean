/- The law LossPlays: Ack, below the last that was sent. -/
import Derived.Test.YtgdboikoejodpaaPlaysS
namespace Go.Proofs.Ytgdboikoejodpaa.PlaysC
open Go Go.RowKit Go.Proofs.YtgdboikoejodpaaW.PrintWords Go.Proofs.YtgdboikoejodpaaW.PrintLast Go.Proofs.YtgdboikoejodpaaW.PrintMore Go.Proofs.Ytgdboikoejodpaa.Keep Go.Proofs.Ytgdboikoejodpaa.Led Go.Proofs.Ytgdboikoejodpaa.Rate Go.Proofs.Ytgdboikoejodpaa.Rd Go.Proofs.Ytgdboikoejodpaa.Timer Go.Proofs.Ytgdboikoejodpaa.LedSp Go.Proofs.Ytgdboikoejodpaa.Drop Go.Proofs.Ytgdboikoejodpaa.In Go.Proofs.Ytgdboikoejodpaa.Split Go.Proofs.Ytgdboikoejodpaa.GoneP Go.Proofs.Ytgdboikoejodpaa.Gone Go.Proofs.Ytgdboikoejodpaa.AckP Go.Proofs.Ytgdboikoejodpaa.Ack Go.Proofs.Ytgdboikoejodpaa.Clone Go.Proofs.Ytgdboikoejodpaa.Sent Go.Proofs.Ytgdboikoejodpaa.Inv Go.Proofs.Ytgdboikoejodpaa.Fire Go.Proofs.Ytgdboikoejodpaa.Law Go.Proofs.Ytgdboikoejodpaa.Ref Go.Proofs.Ytgdboikoejodpaa.RefB Go.Proofs.Ytgdboikoejodpaa.RefLost Go.Proofs.Ytgdboikoejodpaa.RefSent Go.Proofs.Ytgdboikoejodpaa.RefAck Go.Proofs.Ytgdboikoejodpaa.RefFire Go.Proofs.Ytgdboikoejodpaa.OpenL Go.Proofs.Ytgdboikoejodpaa.PlaysP Go.Proofs.Ytgdboikoejodpaa.PlaysW Go.Proofs.Ytgdboikoejodpaa.PlaysQ Go.Proofs.Ytgdboikoejodpaa.Plays0 Go.Proofs.Ytgdboikoejodpaa.PlaysL Go.Proofs.Ytgdboikoejodpaa.PlaysS
set_option linter.unusedVariables false
/-- Rows of spans. -/
abbrev RQ (w : World) (base : Nat) (v : Value) (l : List Q) : Prop := kQ.R 35 w base (fun _ => True) v l
theorem infoQ : (Try.prog.info? 35).map (fun i => (i.zero, i.size, i.bytes)) = some (some (.agg #[.int .u64 0, .int .u64 0]), 2, 16) := by kernel_rfl
theorem appQ {ops : Array Oper} {rest : List Oper} {o : Oper} {a : Act} {Q0 : Exit → Act → World → Prop} {W w0 : World} (base : Nat) (hgd : o.guard = none) (s x : Operand) (ho : o.op = .call { callee := .builtin .append, args := #[s, x], argTypes := #[36, 36] })
    {v : Value} {xs : List Q} {q : Q} (HO : RQ W base v xs) (hs : a.eval s = v) (hx : a.eval x = .slice (some ⟨W.heap.size, 0, none⟩) 1 1) (hB : Below base w0 W) (hbase : base ≤ W.heap.size)
    (hl : xs.length + 1 ≤ 1000000)
    (h : ∀ v1 w1, RQ w1 base v1 (xs ++ [q]) → Below base w0 w1 → W.grownBy w1 v.ownBlock → (v1.ownBlock = v.ownBlock ∨ ∃ b, v1.ownBlock = some b ∧ W.heap.size ≤ b) → wpList Try.prog ops Q0 rest (a.put o.dst v1) w1) : wpList Try.prog ops Q0 (o :: rest) a (W.alloc (.cells #[.int .u64 q.lo, .int .u64 q.hi] 35)) :=
  Kd.R_append kQ (w0 := w0) base hgd s x 36 35 (.agg #[.int .u64 0, .int .u64 0]) 16 ho Try.underlying36 infoQ rfl (by decide) (by decide) v xs q [.int .u64 q.lo, .int .u64 q.hi] (fun _ => True) (fun _ => False) hs hx rfl (fun _ hk => hk.elim) (fun _ _ => trivial) HO hB hbase (by omega) h
theorem C_boxQ {W : World} {b : Nat} (y : Q) (h : W.heap[b]? = some (.cells #[.int .u64 y.lo, .int .u64 y.hi] 35 (0, 0))) : Kd.C kQ W (some ⟨b, 0, none⟩) 1 [y] := by
  refine ⟨rfl, by decide, fun _ => ⟨_, rfl, fun j q hj => ?_⟩⟩
  cases j with
  | succ j => simp at hj
  | zero =>
    simp at hj
    subst hj
    refine ⟨[.int .u64 y.lo, .int .u64 y.hi], rfl, rfl, fun k u hu => ?_⟩
    have hk : k < 2 := (List.getElem?_eq_some_iff.1 hu).1
    have : k = 0 ∨ k = 1 := by omega
    rcases this with rfl | rfl <;> (simp at hu; subst hu; exact blk_cell h _)
theorem appQ_step {ops : Array Oper} {o : Oper} {a : Act} {Q0 : Exit → Act → World → Prop} {Kc : Act → World → Prop} {W w0 : World} (base : Nat) (hw : Region.wanted o (yielded ops a.tmps) = true) (s x : Operand) (ho : o.op = .call { callee := .builtin .append, args := #[s, x], argTypes := #[36, 36] })
    {v : Value} {xs ys : List Q} {A : Option Addr} {n c : Nat} (HO : RQ W base v xs) (hs : a.eval s = v) (hx : a.eval x = .slice A n c) (HR : Kd.C kQ W A n ys) (hB : Below base w0 W) (hbase : base ≤ W.heap.size)
    (hl : xs.length + n ≤ 1000000)
    (h : ∀ v1 w1, RQ w1 base v1 (xs ++ ys) → Below base w0 w1 → W.grownBy w1 v.ownBlock → (v1.ownBlock = v.ownBlock ∨ ∃ b, v1.ownBlock = some b ∧ W.heap.size ≤ b) → Kc (a.put o.dst v1) w1) : if Region.wanted o (yielded ops a.tmps) = true then Oper.wp Try.prog o a W Kc Q0 else Kc (a.put o.dst undef) W :=
  Kd.R_append_rows_step kQ (w0 := w0) base hw s x 36 35 (.agg #[.int .u64 0, .int .u64 0]) 16 ho Try.underlying36 infoQ rfl (by decide) (by decide) v xs ys A n c (fun _ => True) (fun _ => False) hs hx HO HR (fun _ _ hh => hh) (fun _ hk => hk.elim) (fun _ _ => trivial) hB hbase (by omega) h
theorem add_0 (a : Addr) : a.add 0 = a := by
  obtain ⟨b, o, s⟩ := a
  unfold Addr.add
  cases s <;> rfl
theorem RQ_bound {w : World} {base : Nat} {v : Value} {l : List Q} (h : RQ w base v l) (k : Nat) (hk : v.ownBlock = some k) : base ≤ k ∧ k < w.heap.size := by
  obtain ⟨inner, ho⟩ := Kd.R_own h
  exact ⟨own_base ho k hk, own_lt ho k hk⟩
theorem RQ_move {w w' : World} {base : Nat} {v : Value} {l : List Q} (h : RQ w base v l) (hb : ∀ k, v.ownBlock = some k → w'.heap[k]? = w.heap[k]?) : RQ w' base v l := by
  obtain ⟨h0, inner, ho, hr⟩ := h
  exact ⟨h0, inner, own_move ho hb, hr.imp_ (fun _ _ hp => hp)⟩
theorem RQ_slice {w : World} {base : Nat} {v : Value} {l : List Q} (h : RQ w base v l) : ∃ A c, v = .slice A l.length c ∧ Kd.C kQ w A l.length l := by
  obtain ⟨A, c, e, _, hc⟩ := Kd.R_reads h
  exact ⟨A, c, e, hc⟩
theorem RQ_at0 {W : World} {base c1 : Nat} {ad : Addr} {s0 : Q} (h : RQ W base (.slice (some ad) 1 c1) [s0]) : W.cell? ad = some (.int .u64 s0.lo) := by
  obtain ⟨A, c, e, C1⟩ := RQ_slice h
  injection e with e1 e2 e3
  subst e1
  obtain ⟨ad', e4, k0, -⟩ := at_Q C1 0 (by simp)
  injection e4 with e4
  subst e4
  have h0 : W.cell? (ad.add 0) = some (.int .u64 s0.lo) := k0
  rwa [add_0] at h0
set_option maxHeartbeats 8000000 in
set_option maxRecDepth 1000000 in
theorem done (w : World) (B : Option Addr) (c : Nat) (l : List A) (p q : Nat) (k i b : Nat) (now : Int) (n : Nat) (L : Lg) (v v' : Nat → Value) (x : A) (F : Option Addr) (f : Nat) (BB : Option Addr) (d : Nat) (a : Act) (wr : World) (H : SI w B c l p q k i b now 4 n L v v' x F f BB d a wr) (K : Act → World → Prop) (Q' : Exit → Act → World → Prop) (hK : Hid (∀ a' w', SO w B c l p q k i a' w' → K a' w')) :
    Code.wp Try.prog sw (Exit.then K Q') a wr := by
  obtain ⟨u, rfl, hu⟩ := laid a H.size H.defs
  have g0 := (hu 0).trans H.s0
  have g3 := (hu 3).trans H.s3
  have g4 := (hu 4).trans H.s4
  have g5 := (hu 5).trans H.s5
  have g7 := (hu 7).trans H.s7
  have g8 := (hu 8).trans H.s8
  have g9 := (hu 9).trans H.s9
  have g46 := (hu 46).trans H.s46
  have g47 := (hu 47).trans H.s47
  have g48 := (hu 48).trans H.s48
  have g87 := (hu 87).trans H.s87
  simp only [g0, g3, g4, g5, g7, g8, g9, g46, g47, g48, g87]
  conv => arg 2; whnf
  have HX := Lib.hid H.ba
  have HPL := Lib.hid H.pl
  have HBX := Lib.hid H.bx
  have HCF := Lib.hid H.cf
  have HCQ := Lib.hid H.cq
  have hi3 := H.i3
  have hk1 := H.k1
  have hnk := H.nk
  have hw0 := H.w0
  have hw1 := H.w1
  have hfr := H.fr
  have hsl := H.sl
  have hbp := H.bp
  have hbq := H.bq
  have hxn := wf8_bd H.ba.2.2.1
  have hxs := wf16_bd H.ba.2.2.2.2.1
  have hxp := wfi_bd H.ba.2.2.2.2.2.2.2.2
  clear H hu g0 g3 g4 g5 g7 g8 g9 g46 g47 g48 g87
  have b2 := blk_cell HBX.out 2
  have b4 := blk_cell HBX.out 4
  have b5 := blk_cell HBX.out 5
  have b6 := blk_cell HBX.out 6
  have b7 := blk_cell HBX.out 7
  have b8 := blk_cell HBX.out 8
  have b9 := blk_cell HBX.out 9
  have b10 := blk_cell HBX.out 10
  have b11 := blk_cell HBX.out 11
  have b12 := blk_cell HBX.out 12
  have hpx := HPL.out.lw.hp
  have hqx := HPL.out.rl.hp
  have hpx2 := HPL.out.lw.lt
  have hqz := blk_lt HPL.out.rl.blk
  have hnx := HPL.out.lw.inv.b.next i hi3
  obtain ⟨N, hN⟩ : ∃ N, (L.sp i).next = N := ⟨_, rfl⟩
  rw [hN] at hnx
  simp only [hN]
  clear b6 b7 b8 b9 b10 b11 b12
  go_upto_if 123 with fail
  go_cut [10, 11] from 119 to 146 (fun y y11 wc => ∃ l', RQ wc wr.heap.size y l' ∧ (∀ x ∈ l', pq x) ∧ l'.length ≤ 1 ∧ Below wr.heap.size wr wc)
  case first =>
    by_cases hN0 : N > 0
    · have w1 : IntKind.u64.wrap (N - 1) = N - 1 := by rw [IntKind.wrap_u64]; omega
      have w2 : IntKind.u64.wrap (x.n % 6) = x.n % 6 := by rw [IntKind.wrap_u64]; omega
      have w3 : IntKind.u64.wrap (x.size % 5) = x.size % 5 := by rw [IntKind.wrap_u64]; omega
      go_upto_region 21 with fail
      obtain ⟨hi, hhi⟩ : ∃ hi, (N - 1 - if x.n % 6 < N - 1 then x.n % 6 else N - 1) = hi := ⟨_, rfl⟩
      simp only [hhi]
      have hb : 0 ≤ hi ∧ hi ≤ 4611686018427387904 := by rw [← hhi]; split <;> omega
      obtain ⟨lo, hlo⟩ : ∃ lo, (hi - if x.size % 5 < hi then x.size % 5 else hi) = lo := ⟨_, rfl⟩
      have hbl : 0 ≤ lo ∧ lo ≤ 4611686018427387904 := by rw [← hlo]; split <;> omega
      clear hhi
      obtain ⟨e0, he0⟩ : ∃ e, Value.slice none 0 0 = e := ⟨_, rfl⟩
      simp only [he0]
      have hE0 : RQ wr wr.heap.size e0 [] := by rw [← he0]; exact Kd.R_nil _ _ _ _ _
      clear he0
      go_wp2_with (first
        | ((with_reducible refine gate_builtin (b := .append) (xs := #[.tmp 134, .tmp 145]) rfl ?_); (try simp only [hlo]); refine appQ (w0 := wr) wr.heap.size rfl (.tmp 134) (.tmp 145) rfl (q := ⟨lo, hi⟩) hE0 rfl rfl (Below.refl _ _) (Nat.le_refl _) (by simp) ?_; intro v8 w8 R8 B8 G8 N8))
      all_goals (
        go_meet
        case rel => exact ⟨_, R8, by simp only [List.nil_append, List.mem_singleton]; rintro y rfl; exact ⟨by dsimp only; omega, by dsimp only; omega, by dsimp only; omega, by dsimp only; omega⟩, by simp, B8⟩)
    · go_wp2_with fail
      go_meet
      case rel => exact ⟨[], Kd.R_nil _ _ _ _ _, by simp, by simp, Below.refl _ _⟩
  case rest =>
  obtain ⟨l', R1, HQ1, L1, B1⟩ := hcut
  obtain ⟨A1, c1, rfl, C1⟩ := RQ_slice R1
  have HPL1 := Lib.hid (HPL.out.go B1)
  have HBX1 := Lib.hid (blk_below HBX.out B1)
  have hs1 := B1.size
  clear b2 b4 b5
  have b5 := blk_cell HBX1.out 5
  rename_i K1 hK1
  refine hK1 _ _ ?_
  refine wp_seq_k fun K2 hK2 => ?_
  go_cut [10, 12] from 147 to 175 (fun y y12 wd => ∃ l2, RQ wd wr.heap.size y l2 ∧ (∀ x ∈ l2, pq x) ∧ l2.length ≤ 2 ∧ Below wr.heap.size wr wd)
  case rest =>
    clear R1 HQ1 L1 B1 C1 HPL1 HBX1 hs1 b5
    obtain ⟨l2, R1, HQ1, L1, B1⟩ := hcut
    obtain ⟨A2, c2, rfl, C1⟩ := RQ_slice R1
    have HPL1 := Lib.hid (HPL.out.go B1)
    have HLB : Hid (∀ a, A2 = some a → 0 < l2.length → wr.heap.size ≤ a.block) := Lib.hid (fun a e hn => by subst e; exact (RQ_bound R1 a.block rfl).1)
    have HPQ := Lib.hid HQ1
    have HCW := Lib.hid C1
    clear R1 HQ1 B1 C1
    go_wp2_with fail
    refine (p_ack HPL1.out (by omega) _ now (by omega) A2 c2 l2 HCW.out HPQ.out (by omega) (fun a e hn => by have := HLB.out a e hn; omega)).mono ?_
    have LEN := ackX_len HPL.out.lw.inv (by omega) (i : Int) now l2 HPQ.out (by omega)
    obtain ⟨t, ht⟩ : ∃ t, ackX (i : Int) l2 now L = t := ⟨_, rfl⟩
    rw [ht] at LEN ⊢
    rintro e w2 ⟨va, vl, v2, rfl, H2, RA, RB, K2⟩
    obtain ⟨D1, d1, e1, -⟩ := row_slice RA
    obtain ⟨D2, d2, e2, -⟩ := row_slice RB
    subst e1 e2
    have H2 := Lib.hid H2
    have HRA := Lib.hid RA
    have HRB := Lib.hid RB
    have HCW2 := Lib.hid (CQ_kp K2 HCW.out (fun a e hn => by have := HLB.out a e hn; omega))
    clear RA RB
    have hqz2 := blk_lt HPL1.out.rl.blk
    go_wp2_with fail
    have RK := r_ack H2.out HPL.out.lw.inv (by omega) (i : Int) now (by omega) A2 c2 l2 HCW2.out HPQ.out (by omega) (fun a e hn => by have := HLB.out a e hn; omega)
    rw [ht] at RK
    refine RK.mono ?_
    rintro e w3 ⟨va', vl', v3, rfl, H3, RA', RB', K3⟩
    obtain ⟨D3, d3, e3, hE1⟩ := RE_slice RA'
    obtain ⟨D4, d4, e4, hE2⟩ := RE_slice RB'
    subst e3 e4
    have H3 := Lib.hid H3
    have C1 := row_slice' (Kp.R K3 HRA.out hqz2)
    have C2 := row_slice' (Kp.R K3 HRB.out hqz2)
    have HS1 := Lib.hid (rsame_calls D1 D3 d1 d3 t.1 C1 hE1 (by omega))
    have HS2 := Lib.hid (fun m => rsame_calls (w := w3.drewN m) D2 D4 d2 d4 t.2.1 (Kd.C_below C2 (bdrewN (Below.refl _ _) m)) (Kd.C_below hE2 (bdrewN (Below.refl _ _) m)) (by omega))
    clear C1 C2 hE1 hE2 RA' RB' HRA HRB RK ht
    go_wp2_with fail
    refine HS1.out.mono ?_
    rintro e w4 ⟨rfl, m4, rfl⟩
    go_wp2_with fail
    refine (HS2.out m4).mono ?_
    rintro e w5 ⟨rfl, m5, rfl⟩
    go_wp2_with fail
    exact hK.out _ _ ⟨rfl, rfl, now, _, _, _, _, by omega, by omega, by omega, H3.out.drewN (m4 + m5), rfl, rfl, rfl, rfl, rfl, rfl, rfl, rfl⟩
  case first =>
  cases l' with
  | nil =>
    have e1 : ([] : List Q).length = 0 := rfl
    simp only [e1] at C1 R1 ⊢
    go_wp2_with fail
    go_meet
    case rel => exact ⟨[], R1, by simp, by simp, B1⟩
  | cons s0 t =>
    have ht : t = [] := by cases t with | nil => rfl | cons a b => simp at L1
    subst ht
    have hsb := HQ1 s0 (by simp)
    obtain ⟨ad, rfl, k0, -⟩ := at_Q C1 0 (by simp)
    have k0 : wc.cell? ad = some (.int .u64 s0.lo) := by have h0 : wc.cell? (ad.add 0) = some (.int .u64 s0.lo) := k0; rwa [add_0] at h0
    have e1 : [s0].length = 1 := rfl
    simp only [e1] at C1 R1 ⊢
    by_cases h2 : 2 < s0.lo
    · cases hax : x.asks with
      | false =>
        rw [hax] at b5
        go_wp2_with fail
        go_meet
        case rel => exact ⟨[s0], R1, HQ1, by simp, B1⟩
      | true =>
        rw [hax] at b5
        have HOV := Lib.hid (RQ_bound R1)
        have ws : IntKind.u64.wrap (s0.lo - 2) = s0.lo - 2 := by have := hsb.1; have := hsb.2.1; rw [IntKind.wrap_u64]; omega
        go_upto_region 24 with fail
        refine Flow.wp_region_lit_states [162, 163, 164, 165, 166, 167, 168, 169, 170, 171, 172, 173, 174, 175, 10] (by kernel_rfl) (fun jj W v => match jj with | 0 => v = .slice (some ad) 1 c1 | 1 => v = .slice (some ad) 1 c1 | 2 => v = .pointer (some ad) | 3 => v = .pointer (some ad) | 4 => v = .int .u64 s0.lo | 5 => v = .int .u64 (s0.lo - 2) | 6 => v = .slice (some ad) 1 c1 | 7 => v = .pointer (some ad) | 8 => v = .pointer (some ad) | 9 => v = .int .u64 s0.lo | 10 => v = .int .u64 (s0.lo - 2) | 11 => v = .agg #[.int .u64 (s0.lo - 2), .int .u64 (s0.lo - 2)] | 12 => ∃ b, v = .slice (some ⟨b, 0, none⟩) 1 1 ∧ wc.heap.size ≤ b ∧ W.heap[b]? = some (.cells #[.int .u64 (s0.lo - 2), .int .u64 (s0.lo - 2)] 35 (0, 0)) | 13 => RQ W wr.heap.size v [s0, ⟨s0.lo - 2, s0.lo - 2⟩] | 14 => RQ W wr.heap.size v [s0, ⟨s0.lo - 2, s0.lo - 2⟩] | _ => True) (fun bd W => Below wr.heap.size wc W ∧ (bd 13 = false → RQ W wr.heap.size (.slice (some ad) 1 c1) [s0])) (by kernel_rfl) (by kernel_rfl) (by kernel_rfl) (by kernel_rfl) (⟨(Below.refl wr.heap.size wc).drew, fun _ => RQ_move R1 (fun _ _ => rfl)⟩) ?_ ?_
        · intro i o ho bd a W hbi hG hk hdep hcl
          have hi : i < 15 := (Array.getElem?_eq_some_iff.1 ho).1
          rcases (by omega : i = 0 ∨ i = 1 ∨ i = 2 ∨ i = 3 ∨ i = 4 ∨ i = 5 ∨ i = 6 ∨ i = 7 ∨ i = 8 ∨ i = 9 ∨ i = 10 ∨ i = 11 ∨ i = 12 ∨ i = 13 ∨ i = 14) with rfl | rfl | rfl | rfl | rfl | rfl | rfl | rfl | rfl | rfl | rfl | rfl | rfl | rfl | rfl
          · obtain rfl := Option.some.inj ho
            have e10 : a.tmps.getD 10 undef = .slice (some ad) 1 c1 := hk 10 (by kernel_rfl)
            refine Flow.op_want rfl rfl (fun K hK => ?_)
            clear hdep hk ho hcl
            go_simp
            exact hK _ _ ⟨_, rfl, hG, rfl, fun _ _ _ h => h⟩
          · obtain rfl := Option.some.inj ho
            have e10 : a.tmps.getD 10 undef = .slice (some ad) 1 c1 := hk 10 (by kernel_rfl)
            refine Flow.op_want rfl rfl (fun K hK => ?_)
            clear hdep hk ho hcl
            go_simp
            exact hK _ _ ⟨_, rfl, hG, rfl, fun _ _ _ h => h⟩
          · obtain rfl := Option.some.inj ho
            have e163 : a.tmps.getD 163 undef = .slice (some ad) 1 c1 := hdep 1 163 (by kernel_rfl)
            refine Flow.op_want rfl rfl (fun K hK => ?_)
            clear hdep hk ho hcl
            go_simp
            exact hK _ _ ⟨_, rfl, hG, rfl, fun _ _ _ h => h⟩
          · obtain rfl := Option.some.inj ho
            have e164 : a.tmps.getD 164 undef = .pointer (some ad) := hdep 2 164 (by kernel_rfl)
            refine Flow.op_want rfl rfl (fun K hK => ?_)
            clear hdep hk ho hcl
            go_simp
            exact hK _ _ ⟨_, rfl, hG, rfl, fun _ _ _ h => h⟩
          · obtain rfl := Option.some.inj ho
            have e165 : a.tmps.getD 165 undef = .pointer (some ad) := hdep 3 165 (by kernel_rfl)
            have h13 : bd 13 = false := by
              cases h : bd 13 with
              | false => rfl
              | true =>
                have a1 := hcl 13 12 h (by decide +kernel)
                have a2 := hcl 12 11 a1 (by decide +kernel)
                have a3 := hcl 11 5 a2 (by decide +kernel)
                have a4 := hcl 5 4 a3 (by decide +kernel)
                rw [hbi] at a4; cases a4
            have c := RQ_at0 (hG.2 h13)
            clear h13
            refine Flow.op_want rfl rfl (fun K hK => ?_)
            clear hdep hk ho hcl
            go_simp
            exact hK _ _ ⟨_, rfl, hG, rfl, fun _ _ _ h => h⟩
          · obtain rfl := Option.some.inj ho
            have e166 : a.tmps.getD 166 undef = .int .u64 s0.lo := hdep 4 166 (by kernel_rfl)
            refine Flow.op_want rfl rfl (fun K hK => ?_)
            clear hdep hk ho hcl
            go_simp
            exact hK _ _ ⟨_, rfl, hG, rfl, fun _ _ _ h => h⟩
          · obtain rfl := Option.some.inj ho
            have e10 : a.tmps.getD 10 undef = .slice (some ad) 1 c1 := hk 10 (by kernel_rfl)
            refine Flow.op_want rfl rfl (fun K hK => ?_)
            clear hdep hk ho hcl
            go_simp
            exact hK _ _ ⟨_, rfl, hG, rfl, fun _ _ _ h => h⟩
          · obtain rfl := Option.some.inj ho
            have e168 : a.tmps.getD 168 undef = .slice (some ad) 1 c1 := hdep 6 168 (by kernel_rfl)
            refine Flow.op_want rfl rfl (fun K hK => ?_)
            clear hdep hk ho hcl
            go_simp
            exact hK _ _ ⟨_, rfl, hG, rfl, fun _ _ _ h => h⟩
          · obtain rfl := Option.some.inj ho
            have e169 : a.tmps.getD 169 undef = .pointer (some ad) := hdep 7 169 (by kernel_rfl)
            refine Flow.op_want rfl rfl (fun K hK => ?_)
            clear hdep hk ho hcl
            go_simp
            exact hK _ _ ⟨_, rfl, hG, rfl, fun _ _ _ h => h⟩
          · obtain rfl := Option.some.inj ho
            have e170 : a.tmps.getD 170 undef = .pointer (some ad) := hdep 8 170 (by kernel_rfl)
            have h13 : bd 13 = false := by
              cases h : bd 13 with
              | false => rfl
              | true =>
                have a1 := hcl 13 12 h (by decide +kernel)
                have a2 := hcl 12 11 a1 (by decide +kernel)
                have a3 := hcl 11 10 a2 (by decide +kernel)
                have a4 := hcl 10 9 a3 (by decide +kernel)
                rw [hbi] at a4; cases a4
            have c := RQ_at0 (hG.2 h13)
            clear h13
            refine Flow.op_want rfl rfl (fun K hK => ?_)
            clear hdep hk ho hcl
            go_simp
            exact hK _ _ ⟨_, rfl, hG, rfl, fun _ _ _ h => h⟩
          · obtain rfl := Option.some.inj ho
            have e171 : a.tmps.getD 171 undef = .int .u64 s0.lo := hdep 9 171 (by kernel_rfl)
            refine Flow.op_want rfl rfl (fun K hK => ?_)
            clear hdep hk ho hcl
            go_simp
            exact hK _ _ ⟨_, rfl, hG, rfl, fun _ _ _ h => h⟩
          · obtain rfl := Option.some.inj ho
            have e167 : a.tmps.getD 167 undef = .int .u64 (s0.lo - 2) := hdep 5 167 (by kernel_rfl)
            have e172 : a.tmps.getD 172 undef = .int .u64 (s0.lo - 2) := hdep 10 172 (by kernel_rfl)
            rw [Array.getD_eq_getD_getElem?] at e167 e172
            refine Flow.op_want rfl rfl (fun K hK => ?_)
            clear hdep hk ho hcl
            go_simp
            exact hK _ _ ⟨_, rfl, hG, rfl, fun _ _ _ h => h⟩
          · obtain rfl := Option.some.inj ho
            have e173 : a.tmps.getD 173 undef = .agg #[.int .u64 (s0.lo - 2), .int .u64 (s0.lo - 2)] := hdep 11 173 (by kernel_rfl)
            rw [Array.getD_eq_getD_getElem?] at e173
            refine Flow.op_want rfl rfl (fun K hK => ?_)
            clear hdep hk ho hcl
            go_simp
            refine hK _ _ ⟨_, rfl, ⟨hG.1.alloc (Nat.le_trans hs1 hG.1.size) _, fun h => Kd.R_alloc (hG.2 h) _⟩, ⟨W.heap.size, rfl, hG.1.size, heap_alloc_new _ _⟩, ?_⟩
            intro j u hj
            split <;> intro h <;> first | exact h | exact absurd rfl hj.1 | exact absurd hj.2 (by decide +kernel)
          · obtain rfl := Option.some.inj ho
            have e162 : a.tmps.getD 162 undef = .slice (some ad) 1 c1 := hdep 0 162 (by kernel_rfl)
            have e174 : (fun (W : World) (v : Value) => ∃ b, v = .slice (some ⟨b, 0, none⟩) 1 1 ∧ wc.heap.size ≤ b ∧ W.heap[b]? = some (.cells #[.int .u64 (s0.lo - 2), .int .u64 (s0.lo - 2)] 35 (0, 0))) W (a.tmps.getD 174 undef) := hdep 12 174 (by kernel_rfl)
            obtain ⟨b, e174, hb1, hb2⟩ := e174
            refine Flow.op_if rfl (fun K hK => appQ_step (w0 := W) wr.heap.size rfl (.tmp 162) (.tmp 174) rfl (hG.2 hbi) e162 e174 (ys := [⟨s0.lo - 2, s0.lo - 2⟩]) (C_boxQ _ hb2) (Below.refl _ _) (Nat.le_trans hs1 hG.1.size) (by simp) ?_)
            intro v1 W1 R2 B2 G1 N1
            refine hK _ _ ⟨v1, rfl, ⟨hG.1.trans B2, fun h => ?_⟩, R2, ?_⟩
            · have h : Par.up bd 13 13 = false := h
              rw [Par.up_self] at h; cases h
            · intro j u hj
              split <;> intro h <;> first | exact h | exact absurd rfl hj.1 | (obtain ⟨b', e, h1, h2⟩ := h; exact ⟨b', e, h1, (G1.block b' (blk_lt h2) (fun e2 => by have := (HOV.out b' e2.symm).2; omega)).trans h2⟩) | exact absurd hj.2 (by decide +kernel)
          · obtain rfl := Option.some.inj ho
            have e175 : (fun (W : World) (v : Value) => RQ W wr.heap.size v [s0, ⟨s0.lo - 2, s0.lo - 2⟩]) W (a.tmps.getD 175 undef) := hdep 13 175 (by kernel_rfl)
            rw [Array.getD_eq_getD_getElem?] at e175
            refine Flow.op_want rfl rfl (fun K hK => ?_)
            clear hdep hk ho hcl
            go_simp
            exact hK _ _ ⟨_, rfl, hG, e175, fun _ _ _ h => h⟩
        · intro bd us w9 hall hG9 hval
          have hb13 : bd 13 = true := hall 13 (by decide)
          simp only [hb13] at hG9
          have hv10 : (fun (W : World) (v : Value) => RQ W wr.heap.size v [s0, ⟨s0.lo - 2, s0.lo - 2⟩]) w9 (us 10) := hval 14 _ 10 rfl rfl
          clear hval hall
          simp only [Flow.lay, List.set_cons_zero, List.set_cons_succ]
          go_wp2_with fail
          go_meet
          case rel => exact ⟨_, hv10, by simp only [List.mem_cons, List.not_mem_nil, or_false]; rintro y (rfl | rfl); exact hsb; exact ⟨by dsimp only; omega, by have := hsb.2.1; dsimp only; omega, by dsimp only; omega, by have := hsb.2.1; dsimp only; omega⟩, by simp, B1.trans hG9.1⟩
    · go_wp2_with fail
      go_meet
      case rel => exact ⟨[s0], R1, HQ1, by simp, B1⟩
end Go.Proofs.Ytgdboikoejodpaa.PlaysC
