/- Numbers put behind bytes, each as short as may be: what the program's Put makes. -/
import Derived.Test.YtmccghadgihbpaaRows
import Derived.Test.YtmccghadgihbpaaMem
import Derived.WalkLawsBesides
import Derived.WalkSpells
import Derived.Lib.Hide
import Derived.Laws.BitsAllLaws
import Derived.BigQuiet
import Derived.Deep.QuietTactic
namespace Go.Proofs.Ytmccghadgihbpaa.VPut
open Go Go.RowKit Go.Proofs.YtmccghadgihbpaaW.PrintWords Go.Proofs.YtmccghadgihbpaaW.PrintLast Go.Proofs.YtmccghadgihbpaaW.PrintMore Go.Proofs.Ytmccghadgihbpaa.Keep Go.Proofs.Ytmccghadgihbpaa.Mem
set_option linter.unusedVariables false

/-- A short number's bytes. -/
def vbytes (n : Int) : List Int :=
  if n < 64 then [n]
  else if n < 16384 then [n / 256 + 64, n % 256]
  else if n < 1073741824 then [n / 16777216 + 128, n / 65536 % 256, n / 256 % 256, n % 256]
  else [n / 72057594037927936 + 192, n / 281474976710656 % 256, n / 1099511627776 % 256, n / 4294967296 % 256, n / 16777216 % 256, n / 65536 % 256, n / 256 % 256, n % 256]

/-- Numbers behind bytes; none: one is too great. -/
def vput (out : List Int) : List Int → Option (List Int)
  | [] => some out
  | n :: r => if n < 4611686018427387904 then vput (out ++ vbytes n) r else none
/-- What Put answers: the bytes and the error's number. -/
def vputR (b l : List Int) : List Int × Int := match vput b l with | some o => (o, 0) | none => ([], 2)

theorem vbytes_length (n : Int) : (vbytes n).length ≤ 8 := by unfold vbytes; (repeat' split) <;> simp

theorem or_top (y t : Int) (h0 : 0 ≤ y) (h1 : y < 64) (ht : t = 0 ∨ t = 64 ∨ t = 128 ∨ t = 192) : bits .or .u8 y t = y + t := by
  obtain ⟨y, rfl⟩ := Int.eq_ofNat_of_zero_le h0
  have key : ∀ q : Nat, q < 4 → y ||| (64 * q) = y + 64 * q := by
    intro q hq
    have := Nat.two_pow_add_eq_or_of_lt (i := 6) (b := y) (by omega) q
    rw [Nat.or_comm, show 64 * q = 2 ^ 6 * q by rfl, ← this]
    omega
  rcases ht with rfl | rfl | rfl | rfl
  · have e := u8_or_nat y 0 (by omega) (by omega)
    simpa using e
  · have e := u8_or_nat y 64 (by omega) (by omega)
    rw [key 1 (by omega)] at e
    simpa using e
  · have e := u8_or_nat y 128 (by omega) (by omega)
    rw [key 2 (by omega)] at e
    simpa using e
  · have e := u8_or_nat y 192 (by omega) (by omega)
    rw [key 3 (by omega)] at e
    simpa using e


set_option maxHeartbeats 2000000 in
set_option maxRecDepth 100000 in
theorem put_calls {w : World} {A0 A1 : Option Addr} {c0 c1 : Nat} {b l : List Int} (hr0 : CB w A0 b) (hc0 : b.length ≤ c0) (hr1 : CU w A1 l) (hc1 : l.length ≤ c1) (hw : ∀ n ∈ l, 0 ≤ n ∧ n < 18446744073709551616) (hl : b.length + 8 * l.length ≤ 140737488355000) :
    Calls Try.prog 26 #[.slice A0 b.length c0, .slice A1 l.length c1] w fun e w' => ∃ v, e = .returned (.tuple #[v, .int .i64 (vputR b l).2]) ∧ RB w' w.heap.size v (vputR b l).1 ∧ Below w.heap.size w w' := by
  have HW := Lib.hid hw
  have HR1 := Lib.hid hr1
  clear hw hr1
  go_enter Try.func26, Try.ntmps26
  go_wp2_with (first
    | ((with_reducible refine gate_dst (N := 12) rfl ?_); refine litB (w0 := w) w.heap.size rfl (N := 12) rfl rfl (Below.refl _ _) (Nat.le_refl _) ?_; intro v1 w1 R1 B1 G1 N1; clear G1 N1)
    | ((with_reducible refine gate_builtin (b := .append) (xs := #[.tmp 12, .tmp 13]) rfl ?_); refine appB (w0 := w) w.heap.size rfl _ _ rfl (A := A0) (ys := b) R1 rfl rfl rfl (Kd.C_below hr0 B1) B1 B1.size (by simp; omega) ?_; intro v2 w2 R2 B2 G2 N2; clear G2 N2 R1 B1 hr0))
  go_loopw [6, 17] (fun v i wr => ∃ (k : Nat) (out : List Int), k ≤ l.length ∧ i = .int .i64 k ∧ Hid (RB wr w.heap.size v out) ∧ Hid (Below w.heap.size w wr) ∧ out.length ≤ b.length + 8 * k ∧ Hid (vput b l = vput out (l.drop k))) (fun _ i _ => l.length - (intOf i).toNat)
  case atStart => exact ⟨0, b, Nat.zero_le _, rfl, R2, B2, by omega, rfl⟩
  case round =>
    clear R2 B2
    obtain ⟨k, out, hk, rfl, HR, HB, hlen, HV⟩ := hrel
    by_cases hlt : k < l.length
    · obtain ⟨ad, rfl, hcell⟩ := Kd.at_int (Kd.C_below HR1.out HB.out) (k : Int) (Int.natCast_nonneg _) (by omega)
      have hb0 := HW.out l[k] (List.getElem_mem hlt)
      have e0 : rd l (k : Int) = l[k] := by unfold rd; simp [List.getD_eq_getElem?_getD, List.getElem?_eq_getElem hlt]
      have ed : l.drop k = l[k] :: l.drop (k + 1) := List.drop_eq_getElem_cons hlt
      rw [e0, Int.toNat_natCast] at hcell
      have HV2 : Hid (vput b l = if l[k] < 4611686018427387904 then vput (out ++ vbytes l[k]) (l.drop (k + 1)) else none) := by
        show vput b l = _
        rw [HV.out, ed]; rfl
      clear e0 ed HV
      obtain ⟨n0, n1⟩ := hb0
      generalize l[k] = n at *
      rcases (by omega : n < 64 ∨ (64 ≤ n ∧ n < 16384) ∨ (16384 ≤ n ∧ n < 1073741824) ∨ (1073741824 ≤ n ∧ n < 4611686018427387904) ∨ 4611686018427387904 ≤ n) with hn | ⟨hm, hn⟩ | ⟨hm, hn⟩ | ⟨hm, hn⟩ | hm
      · -- class 0
        go_wp2_with fail
        obtain ⟨wo, rfl⟩ : ∃ wo : World, wo = wr := ⟨_, rfl⟩
        go_loop [9] (fun j => ∃ m : Nat, m ≤ 0 ∧ j = .int .i64 m) (fun j => 0 - (intOf j).toNat)
        case atStart => exact ⟨0, by omega, rfl⟩
        case round =>
          obtain ⟨m, hmm, rfl⟩ := hrel
          rcases (by omega : m = 0) with rfl
          · go_wp2_with fail
            go_loopw [6, 10] (fun v i wr => ∃ j : Nat, j ≤ 1 ∧ i = .int .i64 (0 - (j : Int)) ∧ Hid (RB wr w.heap.size v (out ++ ([n]).take j)) ∧ Hid (Below w.heap.size w wr)) (fun _ i _ => ((intOf i) + 1).toNat)
            case atStart => exact ⟨0, by omega, by go_num, by rw [List.take_zero, List.append_nil]; exact HR, HB⟩
            case round =>
              obtain ⟨j, hj, rfl, HR2, HB2⟩ := hrel
              rcases (by omega : j = 0 ∨ j = 1) with rfl | rfl
              · have ot := or_top n 0 (by omega) (by omega) (by omega)
                go_wp2_with (first
                  | ((with_reducible refine gate_builtin (b := .append) (xs := #[.tmp 57, .tmp 59]) rfl ?_); refine app1B (w0 := w) w.heap.size rfl _ _ rfl (p := n) HR2.out rfl rfl HB2.out HB2.out.size (by simp; omega) ?_; intro v3 w3 R3 B3 G3 N3; clear G3 N3 HR2 HB2; have R3 := Lib.hid R3; have B3 := Lib.hid B3))
                go_roundw
                case rel => exact ⟨0 + 1, by omega, by go_num, Lib.hid (by have h := R3.out; simpa using h), B3⟩
                case measure => simp [intOf]
              · have ev : Hid (vbytes n = [n]) := by
                  show vbytes n = _
                  unfold vbytes
                  rw [if_pos hn]
                go_wp2_with fail
                go_roundw
                case rel => exact ⟨k + 1, out ++ [n], by omega, by go_num, HR2, HB2, by simp; omega, Lib.hid (by rw [HV2.out, if_pos (by omega), ev.out])⟩
                case measure => simp [intOf]; omega
      · -- class 1
        go_wp2_with fail
        obtain ⟨wo, rfl⟩ : ∃ wo : World, wo = wr := ⟨_, rfl⟩
        go_loop [9] (fun j => ∃ m : Nat, m ≤ 1 ∧ j = .int .i64 m) (fun j => 1 - (intOf j).toNat)
        case atStart => exact ⟨0, by omega, rfl⟩
        case round =>
          obtain ⟨m, hmm, rfl⟩ := hrel
          rcases (by omega : m = 0 ∨ m = 1) with rfl | rfl
          · go_wp2
            go_round
            case rel => exact ⟨0 + 1, by omega, by go_num⟩
            case measure => simp [intOf]
          · go_wp2_with fail
            go_loopw [6, 10] (fun v i wr => ∃ j : Nat, j ≤ 2 ∧ i = .int .i64 (1 - (j : Int)) ∧ Hid (RB wr w.heap.size v (out ++ ([n / 256 + 64, n % 256]).take j)) ∧ Hid (Below w.heap.size w wr)) (fun _ i _ => ((intOf i) + 1).toNat)
            case atStart => exact ⟨0, by omega, by go_num, by rw [List.take_zero, List.append_nil]; exact HR, HB⟩
            case round =>
              obtain ⟨j, hj, rfl, HR2, HB2⟩ := hrel
              rcases (by omega : j = 0 ∨ j = 1 ∨ j = 2) with rfl | rfl | rfl
              · have ot := or_top (n / 256) 64 (by omega) (by omega) (by omega)
                go_wp2_with (first
                  | ((with_reducible refine gate_builtin (b := .append) (xs := #[.tmp 57, .tmp 59]) rfl ?_); refine app1B (w0 := w) w.heap.size rfl _ _ rfl (p := (n / 256 + 64)) HR2.out rfl rfl HB2.out HB2.out.size (by simp; omega) ?_; intro v3 w3 R3 B3 G3 N3; clear G3 N3 HR2 HB2; have R3 := Lib.hid R3; have B3 := Lib.hid B3))
                go_roundw
                case rel => exact ⟨0 + 1, by omega, by go_num, Lib.hid (by have h := R3.out; simpa using h), B3⟩
                case measure => simp [intOf]
              ·
                go_wp2_with (first
                  | ((with_reducible refine gate_builtin (b := .append) (xs := #[.tmp 57, .tmp 59]) rfl ?_); refine app1B (w0 := w) w.heap.size rfl _ _ rfl (p := (n % 256)) HR2.out rfl rfl HB2.out HB2.out.size (by simp; omega) ?_; intro v3 w3 R3 B3 G3 N3; clear G3 N3 HR2 HB2; have R3 := Lib.hid R3; have B3 := Lib.hid B3))
                go_roundw
                case rel => exact ⟨1 + 1, by omega, by go_num, Lib.hid (by have h := R3.out; simpa using h), B3⟩
                case measure => simp [intOf]
              · have ev : Hid (vbytes n = [n / 256 + 64, n % 256]) := by
                  show vbytes n = _
                  unfold vbytes
                  rw [if_neg (by omega)] ; rw [if_pos hn]
                go_wp2_with fail
                go_roundw
                case rel => exact ⟨k + 1, out ++ [n / 256 + 64, n % 256], by omega, by go_num, HR2, HB2, by simp; omega, Lib.hid (by rw [HV2.out, if_pos (by omega), ev.out])⟩
                case measure => simp [intOf]; omega
      · -- class 2
        go_wp2_with fail
        obtain ⟨wo, rfl⟩ : ∃ wo : World, wo = wr := ⟨_, rfl⟩
        go_loop [9] (fun j => ∃ m : Nat, m ≤ 2 ∧ j = .int .i64 m) (fun j => 2 - (intOf j).toNat)
        case atStart => exact ⟨0, by omega, rfl⟩
        case round =>
          obtain ⟨m, hmm, rfl⟩ := hrel
          rcases (by omega : m = 0 ∨ m = 1 ∨ m = 2) with rfl | rfl | rfl
          · go_wp2
            go_round
            case rel => exact ⟨0 + 1, by omega, by go_num⟩
            case measure => simp [intOf]
          · go_wp2
            go_round
            case rel => exact ⟨1 + 1, by omega, by go_num⟩
            case measure => simp [intOf]
          · go_wp2_with fail
            go_loopw [6, 10] (fun v i wr => ∃ j : Nat, j ≤ 4 ∧ i = .int .i64 (3 - (j : Int)) ∧ Hid (RB wr w.heap.size v (out ++ ([n / 16777216 + 128, n / 65536 % 256, n / 256 % 256, n % 256]).take j)) ∧ Hid (Below w.heap.size w wr)) (fun _ i _ => ((intOf i) + 1).toNat)
            case atStart => exact ⟨0, by omega, by go_num, by rw [List.take_zero, List.append_nil]; exact HR, HB⟩
            case round =>
              obtain ⟨j, hj, rfl, HR2, HB2⟩ := hrel
              rcases (by omega : j = 0 ∨ j = 1 ∨ j = 2 ∨ j = 3 ∨ j = 4) with rfl | rfl | rfl | rfl | rfl
              · have ot := or_top (n / 16777216) 128 (by omega) (by omega) (by omega)
                go_wp2_with (first
                  | ((with_reducible refine gate_builtin (b := .append) (xs := #[.tmp 57, .tmp 59]) rfl ?_); refine app1B (w0 := w) w.heap.size rfl _ _ rfl (p := (n / 16777216 + 128)) HR2.out rfl rfl HB2.out HB2.out.size (by simp; omega) ?_; intro v3 w3 R3 B3 G3 N3; clear G3 N3 HR2 HB2; have R3 := Lib.hid R3; have B3 := Lib.hid B3))
                go_roundw
                case rel => exact ⟨0 + 1, by omega, by go_num, Lib.hid (by have h := R3.out; simpa using h), B3⟩
                case measure => simp [intOf]
              ·
                go_wp2_with (first
                  | ((with_reducible refine gate_builtin (b := .append) (xs := #[.tmp 57, .tmp 59]) rfl ?_); refine app1B (w0 := w) w.heap.size rfl _ _ rfl (p := ((n / 65536) % 256)) HR2.out rfl rfl HB2.out HB2.out.size (by simp; omega) ?_; intro v3 w3 R3 B3 G3 N3; clear G3 N3 HR2 HB2; have R3 := Lib.hid R3; have B3 := Lib.hid B3))
                go_roundw
                case rel => exact ⟨1 + 1, by omega, by go_num, Lib.hid (by have h := R3.out; simpa using h), B3⟩
                case measure => simp [intOf]
              ·
                go_wp2_with (first
                  | ((with_reducible refine gate_builtin (b := .append) (xs := #[.tmp 57, .tmp 59]) rfl ?_); refine app1B (w0 := w) w.heap.size rfl _ _ rfl (p := ((n / 256) % 256)) HR2.out rfl rfl HB2.out HB2.out.size (by simp; omega) ?_; intro v3 w3 R3 B3 G3 N3; clear G3 N3 HR2 HB2; have R3 := Lib.hid R3; have B3 := Lib.hid B3))
                go_roundw
                case rel => exact ⟨2 + 1, by omega, by go_num, Lib.hid (by have h := R3.out; simpa using h), B3⟩
                case measure => simp [intOf]
              ·
                go_wp2_with (first
                  | ((with_reducible refine gate_builtin (b := .append) (xs := #[.tmp 57, .tmp 59]) rfl ?_); refine app1B (w0 := w) w.heap.size rfl _ _ rfl (p := (n % 256)) HR2.out rfl rfl HB2.out HB2.out.size (by simp; omega) ?_; intro v3 w3 R3 B3 G3 N3; clear G3 N3 HR2 HB2; have R3 := Lib.hid R3; have B3 := Lib.hid B3))
                go_roundw
                case rel => exact ⟨3 + 1, by omega, by go_num, Lib.hid (by have h := R3.out; simpa using h), B3⟩
                case measure => simp [intOf]
              · have ev : Hid (vbytes n = [n / 16777216 + 128, n / 65536 % 256, n / 256 % 256, n % 256]) := by
                  show vbytes n = _
                  unfold vbytes
                  rw [if_neg (by omega)] ; rw [if_neg (by omega)] ; rw [if_pos hn]
                go_wp2_with fail
                go_roundw
                case rel => exact ⟨k + 1, out ++ [n / 16777216 + 128, n / 65536 % 256, n / 256 % 256, n % 256], by omega, by go_num, HR2, HB2, by simp; omega, Lib.hid (by rw [HV2.out, if_pos (by omega), ev.out])⟩
                case measure => simp [intOf]; omega
      · -- class 3
        go_wp2_with fail
        obtain ⟨wo, rfl⟩ : ∃ wo : World, wo = wr := ⟨_, rfl⟩
        go_loop [9] (fun j => ∃ m : Nat, m ≤ 3 ∧ j = .int .i64 m) (fun j => 3 - (intOf j).toNat)
        case atStart => exact ⟨0, by omega, rfl⟩
        case round =>
          obtain ⟨m, hmm, rfl⟩ := hrel
          rcases (by omega : m = 0 ∨ m = 1 ∨ m = 2 ∨ m = 3) with rfl | rfl | rfl | rfl
          · go_wp2
            go_round
            case rel => exact ⟨0 + 1, by omega, by go_num⟩
            case measure => simp [intOf]
          · go_wp2
            go_round
            case rel => exact ⟨1 + 1, by omega, by go_num⟩
            case measure => simp [intOf]
          · go_wp2
            go_round
            case rel => exact ⟨2 + 1, by omega, by go_num⟩
            case measure => simp [intOf]
          · go_wp2_with fail
            go_loopw [6, 10] (fun v i wr => ∃ j : Nat, j ≤ 8 ∧ i = .int .i64 (7 - (j : Int)) ∧ Hid (RB wr w.heap.size v (out ++ ([n / 72057594037927936 + 192, n / 281474976710656 % 256, n / 1099511627776 % 256, n / 4294967296 % 256, n / 16777216 % 256, n / 65536 % 256, n / 256 % 256, n % 256]).take j)) ∧ Hid (Below w.heap.size w wr)) (fun _ i _ => ((intOf i) + 1).toNat)
            case atStart => exact ⟨0, by omega, by go_num, by rw [List.take_zero, List.append_nil]; exact HR, HB⟩
            case round =>
              obtain ⟨j, hj, rfl, HR2, HB2⟩ := hrel
              rcases (by omega : j = 0 ∨ j = 1 ∨ j = 2 ∨ j = 3 ∨ j = 4 ∨ j = 5 ∨ j = 6 ∨ j = 7 ∨ j = 8) with rfl | rfl | rfl | rfl | rfl | rfl | rfl | rfl | rfl
              · have ot := or_top (n / 72057594037927936) 192 (by omega) (by omega) (by omega)
                go_wp2_with (first
                  | ((with_reducible refine gate_builtin (b := .append) (xs := #[.tmp 57, .tmp 59]) rfl ?_); refine app1B (w0 := w) w.heap.size rfl _ _ rfl (p := (n / 72057594037927936 + 192)) HR2.out rfl rfl HB2.out HB2.out.size (by simp; omega) ?_; intro v3 w3 R3 B3 G3 N3; clear G3 N3 HR2 HB2; have R3 := Lib.hid R3; have B3 := Lib.hid B3))
                go_roundw
                case rel => exact ⟨0 + 1, by omega, by go_num, Lib.hid (by have h := R3.out; simpa using h), B3⟩
                case measure => simp [intOf]
              ·
                go_wp2_with (first
                  | ((with_reducible refine gate_builtin (b := .append) (xs := #[.tmp 57, .tmp 59]) rfl ?_); refine app1B (w0 := w) w.heap.size rfl _ _ rfl (p := ((n / 281474976710656) % 256)) HR2.out rfl rfl HB2.out HB2.out.size (by simp; omega) ?_; intro v3 w3 R3 B3 G3 N3; clear G3 N3 HR2 HB2; have R3 := Lib.hid R3; have B3 := Lib.hid B3))
                go_roundw
                case rel => exact ⟨1 + 1, by omega, by go_num, Lib.hid (by have h := R3.out; simpa using h), B3⟩
                case measure => simp [intOf]
              ·
                go_wp2_with (first
                  | ((with_reducible refine gate_builtin (b := .append) (xs := #[.tmp 57, .tmp 59]) rfl ?_); refine app1B (w0 := w) w.heap.size rfl _ _ rfl (p := ((n / 1099511627776) % 256)) HR2.out rfl rfl HB2.out HB2.out.size (by simp; omega) ?_; intro v3 w3 R3 B3 G3 N3; clear G3 N3 HR2 HB2; have R3 := Lib.hid R3; have B3 := Lib.hid B3))
                go_roundw
                case rel => exact ⟨2 + 1, by omega, by go_num, Lib.hid (by have h := R3.out; simpa using h), B3⟩
                case measure => simp [intOf]
              ·
                go_wp2_with (first
                  | ((with_reducible refine gate_builtin (b := .append) (xs := #[.tmp 57, .tmp 59]) rfl ?_); refine app1B (w0 := w) w.heap.size rfl _ _ rfl (p := ((n / 4294967296) % 256)) HR2.out rfl rfl HB2.out HB2.out.size (by simp; omega) ?_; intro v3 w3 R3 B3 G3 N3; clear G3 N3 HR2 HB2; have R3 := Lib.hid R3; have B3 := Lib.hid B3))
                go_roundw
                case rel => exact ⟨3 + 1, by omega, by go_num, Lib.hid (by have h := R3.out; simpa using h), B3⟩
                case measure => simp [intOf]
              ·
                go_wp2_with (first
                  | ((with_reducible refine gate_builtin (b := .append) (xs := #[.tmp 57, .tmp 59]) rfl ?_); refine app1B (w0 := w) w.heap.size rfl _ _ rfl (p := ((n / 16777216) % 256)) HR2.out rfl rfl HB2.out HB2.out.size (by simp; omega) ?_; intro v3 w3 R3 B3 G3 N3; clear G3 N3 HR2 HB2; have R3 := Lib.hid R3; have B3 := Lib.hid B3))
                go_roundw
                case rel => exact ⟨4 + 1, by omega, by go_num, Lib.hid (by have h := R3.out; simpa using h), B3⟩
                case measure => simp [intOf]
              ·
                go_wp2_with (first
                  | ((with_reducible refine gate_builtin (b := .append) (xs := #[.tmp 57, .tmp 59]) rfl ?_); refine app1B (w0 := w) w.heap.size rfl _ _ rfl (p := ((n / 65536) % 256)) HR2.out rfl rfl HB2.out HB2.out.size (by simp; omega) ?_; intro v3 w3 R3 B3 G3 N3; clear G3 N3 HR2 HB2; have R3 := Lib.hid R3; have B3 := Lib.hid B3))
                go_roundw
                case rel => exact ⟨5 + 1, by omega, by go_num, Lib.hid (by have h := R3.out; simpa using h), B3⟩
                case measure => simp [intOf]
              ·
                go_wp2_with (first
                  | ((with_reducible refine gate_builtin (b := .append) (xs := #[.tmp 57, .tmp 59]) rfl ?_); refine app1B (w0 := w) w.heap.size rfl _ _ rfl (p := ((n / 256) % 256)) HR2.out rfl rfl HB2.out HB2.out.size (by simp; omega) ?_; intro v3 w3 R3 B3 G3 N3; clear G3 N3 HR2 HB2; have R3 := Lib.hid R3; have B3 := Lib.hid B3))
                go_roundw
                case rel => exact ⟨6 + 1, by omega, by go_num, Lib.hid (by have h := R3.out; simpa using h), B3⟩
                case measure => simp [intOf]
              ·
                go_wp2_with (first
                  | ((with_reducible refine gate_builtin (b := .append) (xs := #[.tmp 57, .tmp 59]) rfl ?_); refine app1B (w0 := w) w.heap.size rfl _ _ rfl (p := (n % 256)) HR2.out rfl rfl HB2.out HB2.out.size (by simp; omega) ?_; intro v3 w3 R3 B3 G3 N3; clear G3 N3 HR2 HB2; have R3 := Lib.hid R3; have B3 := Lib.hid B3))
                go_roundw
                case rel => exact ⟨7 + 1, by omega, by go_num, Lib.hid (by have h := R3.out; simpa using h), B3⟩
                case measure => simp [intOf]
              · have ev : Hid (vbytes n = [n / 72057594037927936 + 192, n / 281474976710656 % 256, n / 1099511627776 % 256, n / 4294967296 % 256, n / 16777216 % 256, n / 65536 % 256, n / 256 % 256, n % 256]) := by
                  show vbytes n = _
                  unfold vbytes
                  rw [if_neg (by omega)] ; rw [if_neg (by omega)] ; rw [if_neg (by omega)]
                go_wp2_with fail
                go_roundw
                case rel => exact ⟨k + 1, out ++ [n / 72057594037927936 + 192, n / 281474976710656 % 256, n / 1099511627776 % 256, n / 4294967296 % 256, n / 16777216 % 256, n / 65536 % 256, n / 256 % 256, n % 256], by omega, by go_num, HR2, HB2, by simp; omega, Lib.hid (by rw [HV2.out, if_pos (by omega), ev.out])⟩
                case measure => simp [intOf]; omega
      · -- class 4
        go_wp2_with fail
        obtain ⟨wo, rfl⟩ : ∃ wo : World, wo = wr := ⟨_, rfl⟩
        go_loop [9] (fun j => ∃ m : Nat, m ≤ 4 ∧ j = .int .i64 m) (fun j => 4 - (intOf j).toNat)
        case atStart => exact ⟨0, by omega, rfl⟩
        case round =>
          obtain ⟨m, hmm, rfl⟩ := hrel
          rcases (by omega : m = 0 ∨ m = 1 ∨ m = 2 ∨ m = 3 ∨ m = 4) with rfl | rfl | rfl | rfl | rfl
          · go_wp2
            go_round
            case rel => exact ⟨0 + 1, by omega, by go_num⟩
            case measure => simp [intOf]
          · go_wp2
            go_round
            case rel => exact ⟨1 + 1, by omega, by go_num⟩
            case measure => simp [intOf]
          · go_wp2
            go_round
            case rel => exact ⟨2 + 1, by omega, by go_num⟩
            case measure => simp [intOf]
          · go_wp2
            go_round
            case rel => exact ⟨3 + 1, by omega, by go_num⟩
            case measure => simp [intOf]
          · go_wp2
            go_ret2
            have hv : vputR b l = ([], 2) := by
              unfold vputR
              rw [HV2.out, if_neg (by omega)]
            rw [hv]
            exact ⟨_, rfl, Kd.R_nil _ _ _ _ _, HB.out⟩
    · have hke : k = l.length := by omega
      subst hke
      clear hlt
      go_wp2
      go_ret2
      have hv : vputR b l = (out, 0) := by
        have := HV.out
        rw [List.drop_length] at this
        unfold vputR
        rw [this]
        rfl
      rw [hv]
      exact ⟨_, rfl, HR.out, HB.out⟩

end Go.Proofs.Ytmccghadgihbpaa.VPut
