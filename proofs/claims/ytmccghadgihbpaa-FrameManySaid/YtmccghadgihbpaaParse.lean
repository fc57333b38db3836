/- The walk of frame.Parse: bytes as frames. -/
import Derived.Test.YtmccghadgihbpaaParseOne
namespace Go.Proofs.Ytmccghadgihbpaa.Parse
open Go Go.RowKit Go.Proofs.Ytmccghadgihbpaa.PFrameBack Go.Proofs.YtmccghadgihbpaaW.PrintWords Go.Proofs.YtmccghadgihbpaaW.PrintLast Go.Proofs.YtmccghadgihbpaaW.PrintMore Go.Proofs.Ytmccghadgihbpaa.Keep Go.Proofs.Ytmccghadgihbpaa.Mem Go.Proofs.Ytmccghadgihbpaa.Reader Go.Proofs.Ytmccghadgihbpaa.Take Go.Proofs.Ytmccghadgihbpaa.ParseS Go.Proofs.Ytmccghadgihbpaa.ParseW Go.Proofs.Ytmccghadgihbpaa.ParseOne
set_option linter.unusedVariables false

theorem info58 : (Try.prog.info? 58).map (fun i => (i.zero, i.size, i.bytes)) = some (some (.agg #[.int .u64 0, .int .u64 0, .int .u64 0, .int .u64 0, .int .u64 0, .bool false, .slice none 0 0, .slice none 0 0]), 8, 96) := by kernel_rfl

/-- 'append(l, f)', frames: one, laid into a block of its own just ahead; its rows lie in blocks from B2 on. -/
theorem app58 {ops : Array Oper} {rest : List Oper} {o : Oper} {a : Act} {Q : Exit → Act → World → Prop} {W w0 : World} (base B2 : Nat) (hgd : o.guard = none) (s x : Operand) (ho : o.op = .call { callee := .builtin .append, args := #[s, x], argTypes := #[60, 60] })
    {v v6 v7 : Value} {xs : List S58} {q : S58} (HO : k58.R 58 W base (fun _ => True) v xs) (hs : a.eval s = v) (hx : a.eval x = .slice (some ⟨W.heap.size, 0, none⟩) 1 1) (h6 : RB W B2 v6 q.f6) (h7 : k84.R 84 W B2 (fun _ => True) v7 q.f7) (hb2 : base ≤ B2) (hown : ∀ k, v.ownBlock = some k → k < B2) (hB : Below base w0 W) (hbase : base ≤ W.heap.size)
    (hl : xs.length + 1 ≤ 1000000)
    (h : ∀ v1 w1, k58.R 58 w1 base (fun _ => True) v1 (xs ++ [q]) → Below base w0 w1 → W.grownBy w1 v.ownBlock → (v1.ownBlock = v.ownBlock ∨ ∃ b, v1.ownBlock = some b ∧ W.heap.size ≤ b) → wpList Try.prog ops Q rest (a.put o.dst v1) w1) :
    wpList Try.prog ops Q (o :: rest) a (W.alloc (.cells #[.int .u64 q.f0, .int .u64 q.f1, .int .u64 q.f2, .int .u64 q.f3, .int .u64 q.f4, .bool q.f5, v6, v7] 58)) :=
  Kd.R_append k58 (w0 := w0) base hgd s x 60 58 (.agg #[.int .u64 0, .int .u64 0, .int .u64 0, .int .u64 0, .int .u64 0, .bool false, .slice none 0 0, .slice none 0 0]) 96 ho Try.underlying60 info58 rfl (by decide) (by decide) v xs q [.int .u64 q.f0, .int .u64 q.f1, .int .u64 q.f2, .int .u64 q.f3, .int .u64 q.f4, .bool q.f5, v6, v7] (fun _ => True) (fun k => B2 ≤ k) hs hx
    (k58_mkM W base (fun k => B2 ≤ k) q (Kd.R_lower (Kd.R_mono (Kd.R_bound h6) (fun k hk => hk.2.1)) hb2) (Kd.R_lower (Kd.R_mono (Kd.R_bound h7) (fun k hk => hk.2.1)) hb2)) (fun k hk => ⟨trivial, fun e => by have := hown k e.symm; omega⟩) (fun _ _ => trivial) HO hB hbase (by omega) h

theorem bodyR_len (k c : Int) (xs : List Int) : (bodyR k c xs).2.2.length ≤ xs.length := by
  have N : ∀ c x, (rNum c x).2.2.length ≤ x.length := rNum_len
  have D : ∀ c x, (dataR c x).2.2.length ≤ x.length := fun c x => (dataR_len c x).2
  unfold bodyR
  repeat' split
  all_goals simp only
  · exact Nat.le_refl _
  · exact acksR_len c xs
  · exact Nat.le_trans (N _ _) (Nat.le_trans (N _ _) (N _ _))
  · exact Nat.le_trans (N _ _) (N _ _)
  · exact Nat.le_trans (D _ _) (N _ _)
  · exact Nat.le_trans (D _ _) (N _ _)
  · exact Nat.le_trans (D _ _) (Nat.le_trans (N _ _) (N _ _))
  · exact N _ _
  · exact Nat.le_trans (N _ _) (N _ _)
  · exact Nat.le_trans (D _ _) (N _ _)
  · exact Nat.le_refl _

/-! a fault stays -/
theorem rFail_stick {n c : Int} (h : c ≠ 0) : rFail n c = c := by unfold rFail; rw [if_neg h]
theorem rBytes_stick {c : Int} {xs : List Int} {n : Int} (h : c ≠ 0) : (rBytes c xs n).2.1 = c := by unfold rBytes; rw [if_pos h]
theorem rNum_stick {c : Int} {xs : List Int} (h : c ≠ 0) : (rNum c xs).2.1 = c := by
  unfold rNum
  split
  · exact rFail_stick h
  · exact rBytes_stick h
theorem dataR_stick {c : Int} {xs : List Int} (h : c ≠ 0) : (dataR c xs).2.1 = c := by
  unfold dataR
  have h1 : (rNum c xs).2.1 = c := rNum_stick h
  have h2 : (if (rNum c xs).1 > 2048 then rFail 8 (rNum c xs).2.1 else (rNum c xs).2.1) = c := by
    split
    · rw [h1, rFail_stick h]
    · exact h1
  rw [h2]
  exact rBytes_stick h
theorem ifq2 {cc n c : Int} {x : List Int} {A : List S84 × Int × List Int} (hc : c ≠ 0) (h1 : cc = c) : (if cc ≠ 0 then (([] : List S84), n, cc, x) else (A.1, n, A.2)).2.2.1 = c := by
  subst h1
  rw [if_pos hc]
theorem acksR_stick {c : Int} {xs : List Int} (h : c ≠ 0) : (acksR c xs).2.2.1 = c := by
  unfold acksR
  refine ifq2 h ?_
  have h1 : (rNum c xs).2.1 = c := rNum_stick h
  rw [h1]
  have h2 : (rNum c (rNum c xs).2.2).2.1 = c := rNum_stick h
  rw [h2]
  have h3 : (rNum c (rNum c (rNum c xs).2.2).2.2).2.1 = c := rNum_stick h
  rw [h3]
  have h4 : (rNum c (rNum c (rNum c (rNum c xs).2.2).2.2).2.2).2.1 = c := rNum_stick h
  rw [h4]
  split
  · exact rFail_stick h
  · rfl
theorem bodyR_stick {k c : Int} {xs : List Int} (h : c ≠ 0) : (bodyR k c xs).2.1 = c := by
  have N : ∀ x, (rNum c x).2.1 = c := fun x => rNum_stick h
  have D : ∀ x, (dataR c x).2.1 = c := fun x => dataR_stick h
  have F : ∀ n, rFail n c = c := fun n => rFail_stick h
  unfold bodyR
  by_cases a0 : k = 0 ∨ k = 1 ∨ k = 30
  · rw [if_pos a0]
  rw [if_neg a0]
  by_cases a2 : k = 2
  · rw [if_pos a2]; exact acksR_stick h
  rw [if_neg a2]
  by_cases a4 : k = 4
  · rw [if_pos a4]; simp only [N]
  rw [if_neg a4]
  by_cases a5 : k = 5
  · rw [if_pos a5]; simp only [N]
  rw [if_neg a5]
  by_cases a6 : k = 6
  · rw [if_pos a6]; simp only [N, D]
  rw [if_neg a6]
  by_cases a10 : k = 10 ∨ k = 11
  · rw [if_pos a10]; simp only [N, D]
  rw [if_neg a10]
  by_cases a14 : k = 14 ∨ k = 15
  · rw [if_pos a14]; simp only [N, F, ite_self, D]
  rw [if_neg a14]
  by_cases a16 : k = 16 ∨ k = 18
  · rw [if_pos a16]; simp only [N]
  rw [if_neg a16]
  by_cases a17 : k = 17
  · rw [if_pos a17]; simp only [N]
  rw [if_neg a17]
  by_cases a28 : k = 28
  · rw [if_pos a28]; simp only [N, D]
  rw [if_neg a28]
  exact F 6
theorem farR_stick {r : S58 × Int × List Int} (h : r.2.1 ≠ 0) : (farR r).2.1 ≠ 0 := by
  unfold farR
  simp only
  split
  · rw [rFail_stick h]; exact h
  · exact h
theorem rNum_less {x : Int} {r : List Int} (h : (rNum 0 (x :: r)).2.1 = 0) : (rNum 0 (x :: r)).2.2.length < (x :: r).length := by
  unfold rNum at h ⊢
  simp only at h ⊢
  unfold rBytes at h ⊢
  rw [if_neg (by simp)] at h ⊢
  have h1 : (0 : Int) < 2 ^ (x / 64).toNat := Int.pow_pos (by decide)
  split at h
  · cases h
  · rename_i hle
    rw [if_neg hle]
    simp only [List.length_drop]
    simp only [List.length_cons] at *
    omega
theorem oneR_less {x : Int} {r : List Int} (h : (oneR 0 (x :: r)).2.1 = 0) : (oneR 0 (x :: r)).2.2.length < (x :: r).length := by
  unfold oneR at h ⊢
  by_cases hc : (rNum 0 (x :: r)).2.1 = 0
  · have h1 := rNum_less hc
    have h2 := bodyR_len (rNum 0 (x :: r)).1 (rNum 0 (x :: r)).2.1 (rNum 0 (x :: r)).2.2
    show (bodyR _ _ _).2.2.length < _
    omega
  · exact absurd h (farR_stick (by rw [bodyR_stick hc]; exact hc))

theorem parseL_more : ∀ (n : Nat) (xs : List Int) (out : List S58) (m : Nat), xs.length ≤ n → n ≤ m → parseL m xs out = parseL n xs out := by
  intro n
  induction n with
  | zero =>
    intro xs out m hx hm
    have : xs = [] := List.eq_nil_of_length_eq_zero (by omega)
    subst this
    cases m with
    | zero => rfl
    | succ m => simp [parseL]
  | succ n ih =>
    intro xs out m hx hm
    obtain ⟨m, rfl⟩ : ∃ q, m = q + 1 := ⟨m - 1, by omega⟩
    cases xs with
    | nil => simp [parseL]
    | cons x r =>
      unfold parseL
      by_cases hc : (oneR 0 (x :: r)).2.1 = 0
      · have hl := oneR_less hc
        simp only [List.length_cons] at hl hx
        rw [ih _ _ m (by omega) (by omega), ih _ _ m (by omega) (by omega)]
      · simp [hc]

theorem cells8b {w : World} {b : Nat} {c0 c1 c2 c3 c4 c5 c6 c7 : Value} {T : TypeId} (h : w.heap[b]? = some (.cells #[c0, c1, c2, c3, c4, c5, c6, c7] T (0, 0))) :
    w.cell? ⟨b, 0, none⟩ = some c0 ∧ w.cell? ⟨b, 1, none⟩ = some c1 ∧ w.cell? ⟨b, 2, none⟩ = some c2 ∧ w.cell? ⟨b, 3, none⟩ = some c3 ∧ w.cell? ⟨b, 4, none⟩ = some c4 ∧ w.cell? ⟨b, 5, none⟩ = some c5 ∧ w.cell? ⟨b, 6, none⟩ = some c6 ∧ w.cell? ⟨b, 7, none⟩ = some c7 :=
  ⟨blk_cell h 0, blk_cell h 1, blk_cell h 2, blk_cell h 3, blk_cell h 4, blk_cell h 5, blk_cell h 6, blk_cell h 7⟩

theorem Rdr_d {w : World} {p d : Nat} {c : Int} {xs : List Int} (h : Rdr w p d c xs) (hx : xs ≠ []) : d < w.heap.size := by
  obtain ⟨h1, h4, A, cc, hb, hc, hC, hA⟩ := h
  have hn : 0 < xs.length := by
    cases xs with
    | nil => exact absurd rfl hx
    | cons x r => simp
  obtain ⟨a, ha, -⟩ := hC.2.2 hn
  subst ha
  rw [← (hA a rfl hn).1]
  exact C_lt hC hn

theorem out_len_ne {α : Type} {l : List α} (h : l.length ≤ 64) (hn : ¬ l.length = 64) : l.length + 1 ≤ 64 := by omega

set_option maxHeartbeats 4000000 in
set_option maxRecDepth 100000 in
theorem parse_calls {w : World} {A : Option Addr} {c : Nat} {b : List Int} (hC : CB w A b) (hc : b.length ≤ c) (hx : ∀ x ∈ b, 0 ≤ x ∧ x < 256) (hl : b.length ≤ 10000000) :
    Calls Try.prog 44 #[.slice A b.length c] w fun e w' => ∃ v, e = .returned (.tuple #[v, .int .i64 (parseR b).2]) ∧ k58.R 58 w' w.heap.size (fun _ => True) v (parseR b).1 ∧ Below w.heap.size w w' := by
  obtain ⟨t, ht⟩ : ∃ t, parseR b = t := ⟨_, rfl⟩
  rw [ht]
  unfold parseR at ht
  have HT := Lib.hid ht
  have N := new_calls hC hc hx (by omega)
  have HN := Lib.hid N
  clear ht N hC hx
  go_enter Try.func44, Try.ntmps44
  go_wp2_with fail
  refine HN.out.mono ?_
  rintro e w1 ⟨p, d, rfl, D1, B1, hp, hd⟩
  have hp1 := D1.1
  have hd1 : d < w1.heap.size ∨ w1.heap.size ≤ d := by omega
  have HD1 := Lib.hid D1
  have HB1 := Lib.hid B1
  clear D1 B1 HN
  go_wp2_with fail
  go_loopg [5] b.length (fun g v5 wr => ∃ (xs : List Int) (out : List S58), xs.length ≤ g ∧ g ≤ b.length ∧ out.length ≤ 64 ∧ (xs = [] ∨ d < w1.heap.size) ∧ Hid (Rdr wr p d 0 xs) ∧ Hid (k58.R 58 wr w1.heap.size (fun _ => True) v5 out) ∧ Hid (Kp p w1 wr) ∧ Hid (t = parseL xs.length xs out))
  case atStart =>
    refine ⟨b, [], Nat.le_refl _, Nat.le_refl _, by simp, ?_, HD1, Lib.hid (Kd.R_nil _ _ _ _ _), Lib.hid (Kp.refl _ _), Lib.hid HT.out.symm⟩
    by_cases hb : b = []
    · exact .inl hb
    · exact .inr (Rdr_d HD1.out hb)
  case round =>
    obtain ⟨xs, out, hxg, hgb, hol, hdd, HR, HO, HK, HTT⟩ := hrel
    clear HT HD1
    obtain ⟨A5, c5, e5⟩ : ∃ A c, u5 = Value.slice A out.length c := by
      obtain ⟨A, c, e, -, -⟩ := Kd.R_reads HO.out
      exact ⟨A, c, e⟩
    subst e5
    by_cases hxs : xs = []
    · subst hxs
      go_wp2_with fail
      refine (left_calls HR.out).mono ?_
      rintro e w2 ⟨rfl, rfl⟩
      go_wp2_with fail
      go_ret2
      have et := HTT.out
      simp [parseL] at et
      subst et
      exact ⟨_, rfl, Kd.R_lower HO.out HB1.out.size, HK.out.below HB1.out HB1.out.size hp⟩
    · have hd2 : d < w1.heap.size := by rcases hdd with h | h; exact absurd h hxs; exact h
      have hpos : 0 < xs.length := by
        cases xs with
        | nil => exact absurd rfl hxs
        | cons x r => simp
      have hks := HK.out.size
      have ON := one_calls HR.out (by omega) (by omega)
      have htt := HTT.out
      obtain ⟨m, hm⟩ : ∃ m, xs.length = m + 1 := ⟨xs.length - 1, by omega⟩
      rw [hm] at htt
      unfold parseL at htt
      rw [if_neg hxs] at htt
      have hless : (oneR 0 xs).2.1 = 0 → (oneR 0 xs).2.2.length < xs.length := by
        intro h
        cases xs with
        | nil => exact absurd rfl hxs
        | cons x r => exact oneR_less h
      generalize oneR 0 xs = f at *
      obtain ⟨q, c2, xs2⟩ := f
      simp only at ON htt hless
      simp only [boxOf] at ON
      have HON := Lib.hid ON
      have HT2 := Lib.hid htt
      have HLS := Lib.hid hless
      have HM := Lib.hid hm
      clear ON htt hless hxs hdd HTT hm
      go_wp2_with fail
      refine (left_calls HR.out).mono ?_
      rintro e w2 ⟨rfl, rfl⟩
      go_wp2_with fail
      refine HON.out.mono ?_
      rintro e w2 ⟨v6, v7, rfl, R6, R7, D2, K2⟩
      obtain ⟨A6, n6, q6, e6⟩ := R_slice R6
      obtain ⟨A7, n7, q7, e7⟩ := R_slice R7
      subst e6
      subst e7
      have HR2 := Lib.hid D2
      have HO2 := Lib.hid (K2.R HO.out hp1)
      have HK2 := Lib.hid (HK.out.trans K2)
      have hown := Lib.hid (R_block HO.out)
      have HR6 := Lib.hid R6
      have HR7 := Lib.hid R7
      have hs2 := K2.size
      clear D2 K2 R6 R7 HR HON
      go_wp2_with fail
      have B3 := (Below.refl w2.heap.size w2).alloc (Nat.le_refl _) (.cells #[.int .u64 q.f0, .int .u64 q.f1, .int .u64 q.f2, .int .u64 q.f3, .int .u64 q.f4, .bool q.f5, .slice A6 n6 q6, .slice A7 n7 q7] 58)
      have hk3 := heap_alloc_new w2 (.cells #[.int .u64 q.f0, .int .u64 q.f1, .int .u64 q.f2, .int .u64 q.f3, .int .u64 q.f4, .bool q.f5, .slice A6 n6 q6, .slice A7 n7 q7] 58)
      obtain ⟨w3, hw3⟩ : ∃ w3 : World, w2.alloc (.cells #[.int .u64 q.f0, .int .u64 q.f1, .int .u64 q.f2, .int .u64 q.f3, .int .u64 q.f4, .bool q.f5, .slice A6 n6 q6, .slice A7 n7 q7] 58) = w3 := ⟨_, rfl⟩
      rw [hw3] at B3 hk3 ⊢
      have HR3 := Lib.hid (HR2.out.below B3)
      have HO3 := Lib.hid (Kd.R_below HO2.out B3)
      have HK3 := Lib.hid (HK2.out.trans (Kp.of_below B3))
      have HR63 := Lib.hid (Kd.R_below HR6.out B3)
      have HR73 := Lib.hid (Kd.R_below HR7.out B3)
      have HB3 := Lib.hid hk3
      have hs3 := B3.size
      clear hw3 B3 hk3 HR2 HO2 HK2 HR6 HR7
      refine (code_calls HR3.out).mono ?_
      rintro e w4 ⟨rfl, rfl⟩
      by_cases hc2 : c2 = 0
      · subst hc2
        have hls := HLS.out rfl
        have htt := HT2.out
        rw [if_neg (by simp)] at htt
        have HT3 := Lib.hid htt
        clear htt HT2
        obtain ⟨k0, k1, k2, k3, k4, k5, k6, k7⟩ := cells8b HB3.out
        by_cases hk : q.f0 = 0
        · have tk : (q.f0 == 0) = true := by simp [hk]
          have HKQ := Lib.hid hk
          clear hk
          go_wp2_with fail
          clear k0 k1 k2 k3 k4 k5 k6 k7
          go_roundg xs2.length
          case measure => omega
          case rel => exact ⟨xs2, out, Nat.le_refl _, by omega, hol, .inr hd2, HR3, HO3, HK3, Lib.hid (by have et := HT3.out; rw [if_pos HKQ.out] at et; rw [et]; exact parseL_more _ _ _ _ (Nat.le_refl _) (by have := HM.out; omega))⟩
        · have tk : (q.f0 == 0) = false := by simp [hk]
          have HKQ := Lib.hid hk
          clear hk
          by_cases h64 : out.length = 64
          · have t64 : ((out.length : Int) == 64) = true := by simp [h64]
            have H64 := Lib.hid h64
            clear h64
            go_wp2_with fail
            go_ret2
            have et := HT3.out
            rw [if_neg HKQ.out, if_pos H64.out] at et
            subst et
            exact ⟨_, rfl, Kd.R_nil _ _ _ _ _, HK3.out.below HB1.out HB1.out.size hp⟩
          · have t64 : ((out.length : Int) == 64) = false := by simp; omega
            have H64 := Lib.hid h64
            have hol2 : out.length + 1 ≤ 64 := by omega
            clear h64
            go_wp2_with (first
              | ((with_reducible refine gate_builtin (b := .append) (xs := #[.tmp 25, .tmp 27]) rfl ?_); refine app58 (w0 := w3) w1.heap.size wr.heap.size rfl (.tmp 25) (.tmp 27) rfl (q := q) HO3.out rfl rfl HR63.out HR73.out hks (fun k hk => (hown.out k hk).2) (Below.refl _ _) (by omega) (by omega) ?_; intro v8 w8 R8 B8 G8 N8; clear G8 N8))
            clear k0 k1 k2 k3 k4 k5 k6 k7
            have HR8 := Lib.hid (HR3.out.stays B8.size (B8.block p (by omega)) (fun _ => B8.block d (by omega)))
            have HO8 := Lib.hid R8
            have HK8 : Hid (Kp p w1 w8) := Lib.hid ⟨B8.os.trans HK3.out.os, B8.tape.trans HK3.out.tape, B8.output.trans HK3.out.output, Nat.le_trans HK3.out.size B8.size, fun k hk hkp => (B8.block k hk).trans (HK3.out.block k hk hkp)⟩
            clear R8 B8
            go_roundg xs2.length
            case measure => omega
            case rel => exact ⟨xs2, out ++ [q], Nat.le_refl _, by omega, by rw [List.length_append]; simp only [List.length_cons, List.length_nil]; omega, .inr hd2, HR8, HO8, HK8, Lib.hid (by have et := HT3.out; rw [if_neg HKQ.out, if_neg H64.out] at et; rw [et]; exact parseL_more _ _ _ _ (Nat.le_refl _) (by have := HM.out; omega))⟩
      · have tc : (c2 != 0) = true := by simp [hc2]
        have HC := Lib.hid hc2
        clear hc2
        go_wp2_with fail
        refine (code_calls HR3.out).mono ?_
        rintro e w4 ⟨rfl, rfl⟩
        go_wp2_with fail
        go_ret2
        have et := HT2.out
        rw [if_pos HC.out] at et
        subst et
        exact ⟨_, rfl, Kd.R_nil _ _ _ _ _, HK3.out.below HB1.out HB1.out.size hp⟩
end Go.Proofs.Ytmccghadgihbpaa.Parse
