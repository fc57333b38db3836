/- The walk of the law FrameMany: as many frames as there may be, and one more; paddings don't count. -/
import Derived.Test.YtmccghadgihbpaaAwake11
import Derived.Test.YtmccghadgihbpaaParse
namespace Go.Proofs.Ytmccghadgihbpaa.FrameManyWalk
open Go Go.RowKit Go.Proofs.Ytmccghadgihbpaa.PFrameBack Go.Proofs.YtmccghadgihbpaaW.PrintWords Go.Proofs.YtmccghadgihbpaaW.PrintLast Go.Proofs.YtmccghadgihbpaaW.PrintMore Go.Proofs.Ytmccghadgihbpaa.Keep Go.Proofs.Ytmccghadgihbpaa.Mem Go.Proofs.Ytmccghadgihbpaa.VPut Go.Proofs.Ytmccghadgihbpaa.Awake11 Go.Proofs.Ytmccghadgihbpaa.Reader Go.Proofs.Ytmccghadgihbpaa.ParseS Go.Proofs.Ytmccghadgihbpaa.ParseOne Go.Proofs.Ytmccghadgihbpaa.Parse
set_option linter.unusedVariables false

/-! ### plain -/
def ping : S58 := fr 1 0 0 0 0 false [] []
def pings (n : Nat) : List Int := (List.replicate n [1, 0]).flatten
theorem pings_snoc (n : Nat) : pings (n + 1) = pings n ++ [1, 0] := by unfold pings; rw [List.replicate_succ', List.flatten_append]; simp
theorem pings_cons (n : Nat) : pings (n + 1) = 1 :: 0 :: pings n := by unfold pings; rw [List.replicate_succ]; rfl
theorem pings_len (n : Nat) : (pings n).length = 2 * n := by
  induction n with
  | zero => rfl
  | succ n ih => rw [pings_snoc, List.length_append, ih]; simp; omega
theorem one_pad (r : List Int) : oneR 0 (0 :: r) = (fr 0 0 0 0 0 false [] [], 0, r) := by
  have h : rNum 0 (0 :: r) = (0, 0, r) := by
    unfold rNum
    simp only
    rw [show ((0 : Int) / 64).toNat = 0 by decide]
    have : rBytes 0 (0 :: r) (2 ^ 0) = ([0], 0, r) := by
      unfold rBytes
      rw [if_neg (by simp), if_neg (by simp; omega)]
      simp
    rw [this]
    rfl
  unfold oneR
  rw [h]
  simp only
  unfold bodyR
  rw [if_pos (by simp)]
  unfold farR
  simp [fr]
theorem one_ping (r : List Int) : oneR 0 (1 :: r) = (ping, 0, r) := by
  have h : rNum 0 (1 :: r) = (1, 0, r) := by
    unfold rNum
    simp only
    rw [show ((1 : Int) / 64).toNat = 0 by decide]
    have : rBytes 0 (1 :: r) (2 ^ 0) = ([1], 0, r) := by
      unfold rBytes
      rw [if_neg (by simp), if_neg (by simp; omega)]
      simp
    rw [this]
    rfl
  unfold oneR
  rw [h]
  simp only
  unfold bodyR
  rw [if_pos (by simp)]
  unfold farR ping
  simp [fr]
theorem parse_pad (r : List Int) (out : List S58) : parseL (r.length + 1) (0 :: r) out = parseL r.length r out := by
  conv => lhs; unfold parseL
  rw [if_neg (by simp), one_pad]
  simp [fr]
theorem parse_pings : ∀ (n : Nat) (out : List S58), out.length ≤ 64 → parseL (pings n).length (pings n) out = if out.length + n > 64 then ([], 7) else (out ++ List.replicate n ping, 0)
  | 0, out, h => by
    rw [if_neg (by omega)]
    simp [pings, parseL]
  | n + 1, out, h => by
    rw [pings_cons]
    simp only [List.length_cons]
    unfold parseL
    rw [if_neg (by simp), one_ping]
    simp only
    rw [if_neg (by simp), if_neg (by simp [ping, fr])]
    by_cases h64 : out.length = 64
    · rw [if_pos h64, if_pos (by omega)]
    · rw [if_neg h64, parse_pad, parse_pings n _ (by rw [List.length_append]; simp; omega)]
      rw [List.length_append]
      simp only [List.length_cons, List.length_nil]
      rw [List.replicate_succ, List.append_assoc]
      by_cases h2 : out.length + (n + 1) > 64
      · rw [if_pos (by omega), if_pos h2]
      · rw [if_neg (by omega), if_neg h2]; rfl
theorem parse_pads : ∀ (p : Nat) (r : List Int), parseL (List.replicate p 0 ++ r).length (List.replicate p 0 ++ r) [] = parseL r.length r []
  | 0, r => by simp
  | p + 1, r => by
    rw [List.replicate_succ, List.cons_append]
    simp only [List.length_cons]
    rw [parse_pad, parse_pads p r]
theorem parse_many (p n : Nat) : parseR (List.replicate p 0 ++ pings n) = if n > 64 then ([], 7) else (List.replicate n ping, 0) := by
  unfold parseR
  rw [parse_pads, parse_pings n [] (by simp)]
  simp
theorem many_fit (p n : Nat) : ∀ x ∈ List.replicate p (0 : Int) ++ pings n, 0 ≤ x ∧ x < 256 := by
  intro x hx
  rcases List.mem_append.1 hx with h | h
  · have := (List.mem_replicate.1 h).2; omega
  · unfold pings at h
    rw [List.mem_flatten] at h
    obtain ⟨l, hl, hx⟩ := h
    have := (List.mem_replicate.1 hl).2
    subst this
    simp at hx
    omega

/-! ### the walk -/
/-- 'make([]byte, n)', n a byte. -/
theorem makeB8 {ops : Array Oper} {rest : List Oper} {o : Oper} {a : Act} {Q : Exit → Act → World → Prop} {W w0 : World} (base : Nat) (hgd : o.guard = none) {N : Tmp} (hd : o.dst = some N) (x : Operand) (ho : o.op = .makeSlice 30 x x) (m : Nat) (hm : m < 256) (hx : a.eval x = .int .u8 (m : Int)) (hB : Below base w0 W) (hbase : base ≤ W.heap.size)
    (h : ∀ v1 w1, RB w1 base v1 (List.replicate m 0) → Below base w0 w1 → wpList Try.prog ops Q rest (a.put o.dst v1) w1) : wpList Try.prog ops Q (o :: rest) a W := by
  obtain ⟨i0, hi, hzz⟩ := Option.map_eq_some_iff.1 info8
  simp only [Prod.mk.injEq] at hzz
  obtain ⟨hz0, hz1, hz2⟩ := hzz
  have hr := run_make (P := Try.prog) W 30 5 i0 (.int .u8 0) Try.underlying30 hi hz0 .u8 .u8 (m : Int) (m : Int) (by omega) (by omega) (by rw [hz2]; omega) (by omega)
  simp only [Int.toNat_natCast] at hr
  rw [hz1] at hr
  have hrep : Reps ((Kd.int .u8).M W base (fun _ => True)) (Kd.int .u8).sz (List.replicate m 0) (madeCells (Value.int .u8 0).cells (m * 1)).toList := Kd.reps_made (R := (Kd.int .u8).M W base (fun _ => True)) (z := .int .u8 0) (z0 := (0 : Int)) (size := 1) rfl (by decide) rfl m
  refine Kd.R_lit (Kd.int .u8) (w0 := w0) base 5 hgd hd (xs := List.replicate m 0) (inner := (madeCells (Value.int .u8 0).cells (m * 1)).toList) (okp := fun _ => True) (ok := fun _ => True) ?_ hrep (fun _ h => h) trivial hB hbase (by simp; omega) (fun v1 w1 R B _ _ => h v1 w1 R B)
  simp only [Nat.mul_one] at hr ⊢
  simp [execOp, ho, hx, hr]

set_option maxHeartbeats 4000000 in
set_option maxRecDepth 100000 in
theorem walk {w : World} (n pad : Nat) (hn : n < 256) (hp : pad < 256) :
    Calls Try.prog 15 #[.int .u8 (n : Int), .int .u8 (pad : Int)] w fun e w' => e = .returned (.bool true) ∧ Below w.heap.size w w' := by
  go_enter Try.func15, Try.ntmps15
  go_wp2_with fail
  refine (awake w).mono ?_
  rintro e w2 ⟨rfl, B2⟩
  have HB2 := Lib.hid B2
  clear B2
  go_wp2_with (first
    | ((with_reducible refine gate_dst (N := 11) rfl ?_); refine makeB8 (w0 := w2) w2.heap.size rfl (N := 11) rfl (.tmp 10) rfl pad hp rfl (Below.refl _ _) (Nat.le_refl _) ?_; intro v3 w3 R3 B3))
  have HR3 := Lib.hid R3
  have HB3 := Lib.hid B3
  clear R3 B3
  go_loopw [5, 13] (fun v i wr => ∃ k : Nat, k ≤ n ∧ i = .int .u8 (k : Int) ∧ Hid (RB wr w2.heap.size v (List.replicate pad 0 ++ pings k)) ∧ Hid (Below w2.heap.size w2 wr)) (fun _ i _ => n - (intOf i).toNat)
  case atStart => exact ⟨0, Nat.zero_le _, rfl, Lib.hid (by have h := HR3.out; show RB _ _ _ (List.replicate pad 0 ++ []); rw [List.append_nil]; exact h), HB3⟩
  case round =>
    obtain ⟨k, hk, rfl, HR, HB⟩ := hrel
    clear HR3 HB3
    have hpl := pings_len k
    by_cases hlt : k < n
    · go_wp2_with (first
        | ((with_reducible refine gate_builtin (b := .append) (xs := #[.tmp 15, .tmp 16]) rfl ?_); refine appB (w0 := w2) w2.heap.size rfl (.tmp 15) (.tmp 16) rfl (A := some ⟨wr.heap.size, 0, none⟩) (ys := [1, 0]) (Kd.R_below HR.out (below_alloc (Below.refl _ _) _)) rfl rfl rfl (C_lit .u8 wr 5 [1, 0] (by simp)) (HB.out.alloc HB.out.size _) (Nat.le_trans HB.out.size (by simp)) (by rw [List.length_append, List.length_replicate, hpl]; simp; omega) ?_; intro v4 w4 R4 B4 G4 N4; clear G4 N4))
      have HR4 := Lib.hid R4
      have HB4 := Lib.hid B4
      clear R4 B4 hpl
      go_roundw
      case rel => exact ⟨k + 1, by omega, by go_num, Lib.hid (by have h := HR4.out; rw [List.append_assoc, ← pings_snoc] at h; exact h), HB4⟩
      case measure => simp [intOf]; omega
    · have hkn : k = n := by omega
      subst hkn
      obtain ⟨A5, c5, e5, hc5, hC5, -⟩ := RB.read HR.out
      subst e5
      have PC := parse_calls hC5 hc5 (many_fit pad k) (by rw [List.length_append, List.length_replicate, hpl]; omega)
      rw [parse_many] at PC
      have HB5 := Lib.hid (HB2.out.trans (HB.out.mono HB2.out.size))
      generalize List.replicate pad 0 ++ pings k = bb at *
      by_cases h64 : k > 64
      · rw [if_pos h64] at PC
        have HPC := Lib.hid PC
        clear PC hC5 hlt hpl
        go_wp2_with fail
        refine HPC.out.mono ?_
        rintro e w6 ⟨v6, rfl, R6, B6⟩
        obtain ⟨A6, c6, e6, -, -⟩ := Kd.R_reads R6
        subst e6
        have HB6 := Lib.hid (HB5.out.trans (B6.mono HB5.out.size))
        clear R6 B6
        go_wp2_with fail
        go_ret
        exact ⟨rfl, HB6.out⟩
      · rw [if_neg h64] at PC
        have HPC := Lib.hid PC
        have hcv : IntKind.i64.wrap (k : Int) = k := by rw [IntKind.wrap_i64]; omega
        have hcv' : wrap64 (k : Int) = k := by unfold wrap64; omega
        clear PC hC5 hlt hpl
        go_wp2_with fail
        refine HPC.out.mono ?_
        rintro e w6 ⟨v6, rfl, R6, B6⟩
        obtain ⟨A6, c6, e6, -, -⟩ := Kd.R_reads R6
        rw [List.length_replicate] at e6
        subst e6
        have HB6 := Lib.hid (HB5.out.trans (B6.mono HB5.out.size))
        clear R6 B6
        go_wp2_with fail
        go_ret
        exact ⟨rfl, HB6.out⟩

theorem law {w : World} (n pad : Int) (hn : (Lit.int .u8 n).wf = true) (hp : (Lit.int .u8 pad).wf = true) :
    Calls Try.prog 15 #[.int .u8 n, .int .u8 pad] w fun e w' => e = .returned (.bool true) ∧ Below w.heap.size w w' := by
  have W : ∀ x : Int, (Lit.int .u8 x).wf = true → 0 ≤ x ∧ x < 256 := by
    intro x h
    simp [Lit.wf, IntKind.min, IntKind.max, IntKind.bits, IntKind.signed] at h
    omega
  obtain ⟨a, rfl⟩ := Int.eq_ofNat_of_zero_le (W _ hn).1
  obtain ⟨b, rfl⟩ := Int.eq_ofNat_of_zero_le (W _ hp).1
  exact walk a b (by have := (W _ hn).2; omega) (by have := (W _ hp).2; omega)
end Go.Proofs.Ytmccghadgihbpaa.FrameManyWalk
