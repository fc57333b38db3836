/- The walk of the law VarintWide: numbers written in more bytes than need be are read as they are. -/
import Derived.Test.YtmccghadgihbpaaAwake10
namespace Go.Proofs.Ytmccghadgihbpaa.VarintWideWalk
open Go Go.RowKit Go.Proofs.YtmccghadgihbpaaW.PrintWords Go.Proofs.YtmccghadgihbpaaW.PrintLast Go.Proofs.YtmccghadgihbpaaW.PrintMore Go.Proofs.Ytmccghadgihbpaa.Keep Go.Proofs.Ytmccghadgihbpaa.Mem Go.Proofs.Ytmccghadgihbpaa.Reader Go.Proofs.Ytmccghadgihbpaa.VPut
set_option linter.unusedVariables false

theorem back0 (m : Int) (more : List Int) (h0 : 0 ≤ m) (h1 : m < 64) : rNum 0 ([m] ++ more) = (m, 0, more) := by
  have hx : ((m) / 64).toNat = 0 := by omega
  simp only [rNum, List.cons_append, List.nil_append]
  rw [hx]
  have hb : rBytes 0 ([m] ++ more) (2 ^ 0) = ([m], 0, more) := by
    unfold rBytes
    rw [if_neg (by decide), if_neg (by simp; omega)]
    rfl
  simp only [List.cons_append, List.nil_append] at hb
  rw [hb]
  simp only [numOf, List.foldl_nil]
  exact Prod.ext (by simp only []; omega) rfl
theorem fit0 (m : Int) (more : List Int) (h0 : 0 ≤ m) (h1 : m < 64) (hm : ∀ x ∈ more, 0 ≤ x ∧ x < 256) : ∀ x ∈ [m] ++ more, 0 ≤ x ∧ x < 256 := by
  intro x hx
  simp only [List.mem_append, List.mem_cons, List.not_mem_nil, or_false] at hx
  rcases hx with hx | hx
  · rcases hx with rfl <;> omega
  · exact hm x hx
theorem back1 (m : Int) (more : List Int) (h0 : 0 ≤ m) (h1 : m < 16384) : rNum 0 ([m / 256 + 64, m % 256] ++ more) = (m, 0, more) := by
  have hx : ((m / 256 + 64) / 64).toNat = 1 := by omega
  simp only [rNum, List.cons_append, List.nil_append]
  rw [hx]
  have hb : rBytes 0 ([m / 256 + 64, m % 256] ++ more) (2 ^ 1) = ([m / 256 + 64, m % 256], 0, more) := by
    unfold rBytes
    rw [if_neg (by decide), if_neg (by simp; omega)]
    rfl
  simp only [List.cons_append, List.nil_append] at hb
  rw [hb]
  simp only [numOf, List.foldl_cons, List.foldl_nil]
  exact Prod.ext (by simp only []; omega) rfl
theorem fit1 (m : Int) (more : List Int) (h0 : 0 ≤ m) (h1 : m < 16384) (hm : ∀ x ∈ more, 0 ≤ x ∧ x < 256) : ∀ x ∈ [m / 256 + 64, m % 256] ++ more, 0 ≤ x ∧ x < 256 := by
  intro x hx
  simp only [List.mem_append, List.mem_cons, List.not_mem_nil, or_false] at hx
  rcases hx with hx | hx
  · rcases hx with rfl | rfl <;> omega
  · exact hm x hx
theorem back2 (m : Int) (more : List Int) (h0 : 0 ≤ m) (h1 : m < 1073741824) : rNum 0 ([m / 16777216 + 128, m / 65536 % 256, m / 256 % 256, m % 256] ++ more) = (m, 0, more) := by
  have hx : ((m / 16777216 + 128) / 64).toNat = 2 := by omega
  simp only [rNum, List.cons_append, List.nil_append]
  rw [hx]
  have hb : rBytes 0 ([m / 16777216 + 128, m / 65536 % 256, m / 256 % 256, m % 256] ++ more) (2 ^ 2) = ([m / 16777216 + 128, m / 65536 % 256, m / 256 % 256, m % 256], 0, more) := by
    unfold rBytes
    rw [if_neg (by decide), if_neg (by simp; omega)]
    rfl
  simp only [List.cons_append, List.nil_append] at hb
  rw [hb]
  simp only [numOf, List.foldl_cons, List.foldl_nil]
  exact Prod.ext (by simp only []; omega) rfl
theorem fit2 (m : Int) (more : List Int) (h0 : 0 ≤ m) (h1 : m < 1073741824) (hm : ∀ x ∈ more, 0 ≤ x ∧ x < 256) : ∀ x ∈ [m / 16777216 + 128, m / 65536 % 256, m / 256 % 256, m % 256] ++ more, 0 ≤ x ∧ x < 256 := by
  intro x hx
  simp only [List.mem_append, List.mem_cons, List.not_mem_nil, or_false] at hx
  rcases hx with hx | hx
  · rcases hx with rfl | rfl | rfl | rfl <;> omega
  · exact hm x hx
theorem back3 (m : Int) (more : List Int) (h0 : 0 ≤ m) (h1 : m < 4611686018427387904) : rNum 0 ([m / 72057594037927936 + 192, m / 281474976710656 % 256, m / 1099511627776 % 256, m / 4294967296 % 256, m / 16777216 % 256, m / 65536 % 256, m / 256 % 256, m % 256] ++ more) = (m, 0, more) := by
  have hx : ((m / 72057594037927936 + 192) / 64).toNat = 3 := by omega
  simp only [rNum, List.cons_append, List.nil_append]
  rw [hx]
  have hb : rBytes 0 ([m / 72057594037927936 + 192, m / 281474976710656 % 256, m / 1099511627776 % 256, m / 4294967296 % 256, m / 16777216 % 256, m / 65536 % 256, m / 256 % 256, m % 256] ++ more) (2 ^ 3) = ([m / 72057594037927936 + 192, m / 281474976710656 % 256, m / 1099511627776 % 256, m / 4294967296 % 256, m / 16777216 % 256, m / 65536 % 256, m / 256 % 256, m % 256], 0, more) := by
    unfold rBytes
    rw [if_neg (by decide), if_neg (by simp; omega)]
    rfl
  simp only [List.cons_append, List.nil_append] at hb
  rw [hb]
  simp only [numOf, List.foldl_cons, List.foldl_nil]
  exact Prod.ext (by simp only []; omega) rfl
theorem fit3 (m : Int) (more : List Int) (h0 : 0 ≤ m) (h1 : m < 4611686018427387904) (hm : ∀ x ∈ more, 0 ≤ x ∧ x < 256) : ∀ x ∈ [m / 72057594037927936 + 192, m / 281474976710656 % 256, m / 1099511627776 % 256, m / 4294967296 % 256, m / 16777216 % 256, m / 65536 % 256, m / 256 % 256, m % 256] ++ more, 0 ≤ x ∧ x < 256 := by
  intro x hx
  simp only [List.mem_append, List.mem_cons, List.not_mem_nil, or_false] at hx
  rcases hx with hx | hx
  · rcases hx with rfl | rfl | rfl | rfl | rfl | rfl | rfl | rfl <;> omega
  · exact hm x hx

set_option maxHeartbeats 4000000 in
set_option maxRecDepth 100000 in
theorem small {w : World} {A1 : Option Addr} {c1 : Nat} {l : List Int} (n : Int) (n0 : 0 ≤ n) (n1 : n < 18446744073709551616) (hr1 : CB w A1 l) (hc1 : l.length ≤ c1) (hw : ∀ x ∈ l, 0 ≤ x ∧ x < 256) (hl : l.length ≤ 100) :
    Calls Try.prog 8 #[.int .u64 n, .slice A1 l.length c1] w fun e w' => e = .returned (.bool true) ∧ Below w.heap.size w w' := by
  have HR1 := Lib.hid hr1
  have HW := Lib.hid hw
  clear hr1 hw
  go_enter Try.func8, Try.ntmps8
  go_wp2_with fail
  refine (Awake10.awake _).mono ?_
  rintro e w1 ⟨rfl, B1⟩
  have HB1 := Lib.hid B1
  clear B1
  go_wp2_with fail
  go_loopw [16] (fun i wr => (i = .int .i64 0 ∨ i = .int .i64 1 ∨ i = .int .i64 2 ∨ i = .int .i64 3 ∨ i = .int .i64 4) ∧ Hid (Below w.heap.size w wr)) (fun i _ => 4 - (intOf i).toNat)
  case atStart => exact ⟨.inl rfl, HB1⟩
  case round =>
    clear HB1
    obtain ⟨hk, HB⟩ := hrel
    rcases hk with rfl | rfl | rfl | rfl | rfl
    · -- 1 bytes
      go_wp2_with fail
      have m0 : 0 ≤ n % 64 := by omega
      have m1 : n % 64 < 64 := by omega
      generalize n % 64 = m at *
      go_loopw [8, 9] (fun v i wr => ∃ j : Nat, j ≤ 1 ∧ i = .int .i64 (0 - (j : Int)) ∧ Hid (RB wr w.heap.size v (([m]).take j)) ∧ Hid (Below w.heap.size w wr)) (fun _ i _ => ((intOf i) + 1).toNat)
      case atStart => exact ⟨0, by omega, by go_num, Lib.hid (Kd.R_nil _ _ _ _ _), HB⟩
      case round =>
        clear HB
        obtain ⟨j, hj, rfl, HR2, HB2⟩ := hrel
        rcases (by omega : j = 0 ∨ j = 1) with rfl | rfl
        · go_wp2_with (first
            | ((with_reducible refine gate_builtin (b := .append) (xs := #[.tmp 33, .tmp 39]) rfl ?_); refine app1B (w0 := w) w.heap.size rfl _ _ rfl (p := m) HR2.out rfl rfl HB2.out HB2.out.size (by simp) ?_; intro v3 w3 R3 B3 G3 N3; clear G3 N3 HR2 HB2; have R3 := Lib.hid R3; have B3 := Lib.hid B3))
          go_roundw
          case rel => exact ⟨0 + 1, by omega, by go_num, Lib.hid (by have h := R3.out; simpa using h), B3⟩
          case measure => simp [intOf]
        · have ho := HR2.out
          simp only [List.take] at ho
          obtain ⟨inner, hin⟩ := Kd.R_own ho
          obtain ⟨g, cap, rfl, hg0, hg1⟩ := hin.form (by simp)
          have hce := Kd.R_celln (0 : Int) ho 0 (by decide) (by simp)
          have hput := Kd.R_putn ho 0 (m)
          have hbi := Lib.hid (HB2.out.setCell (p := ⟨g, 0, none⟩) hg0 (.int .u8 (m)))
          have hcell : wr.cell? ⟨g, 0, none⟩ = some (.int .u8 (m)) := hce.1
          have hfr : wr.frozen? ⟨g, 0, none⟩ = false := hce.2
          have ot := or_top (m) 0 (by omega) (by omega) (by omega)
          have HP := Lib.hid hput
          clear hput hce hin ho
          go_wp2_with (first
            | ((with_reducible refine gate_builtin (b := .append) (xs := #[.tmp 49, .tmp 50]) rfl ?_); refine appB (w0 := w) w.heap.size rfl _ _ rfl (A := A1) (ys := l) HP.out rfl rfl rfl (Kd.C_below HR1.out hbi.out) hbi.out hbi.out.size (by simp; omega) ?_; intro v4 w4 R4 B4 G4 N4; clear G4 N4; have HB4 := Lib.hid B4; clear B4; obtain ⟨A4, c4, rfl, hc4, hC4, hA4⟩ := R4.read; have HC4 := Lib.hid hC4; clear R4 hC4 hcell hfr ot HP hbi HR2 HB2))
          refine (new_calls (xs := [m] ++ l) HC4.out hc4 (fit0 m l m0 m1 HW.out) (by simp; omega)).mono ?_
          rintro e w5 ⟨p, d, rfl, D5, B5, hp, hd⟩
          have N := num_calls D5 (by simp; omega)
          rw [back0 m l m0 m1] at N
          have HB5 := Lib.hid (HB4.out.trans (B5.mono HB4.out.size))
          have HNN := Lib.hid N
          have hp2 := Nat.le_trans HB4.out.size hp
          clear B5 D5 N
          go_wp2_with fail
          refine HNN.out.mono ?_
          clear HNN
          rintro e w6 ⟨rfl, D6, K6⟩
          have HD6 := Lib.hid D6
          have HB6 := Lib.hid (K6.below HB5.out HB5.out.size hp2)
          clear D6 K6
          go_wp2_with fail
          refine (left_calls HD6.out).mono ?_
          rintro e w7 ⟨rfl, rfl⟩
          go_wp2_with fail
          refine (code_calls HD6.out).mono ?_
          rintro e w7 ⟨rfl, rfl⟩
          go_wp2_with fail
          go_roundw
          case rel => exact ⟨by simp, HB6⟩
          case measure => simp [intOf]
    · -- 2 bytes
      go_wp2_with fail
      have m0 : 0 ≤ n % 16384 := by omega
      have m1 : n % 16384 < 16384 := by omega
      generalize n % 16384 = m at *
      go_loopw [8, 9] (fun v i wr => ∃ j : Nat, j ≤ 2 ∧ i = .int .i64 (1 - (j : Int)) ∧ Hid (RB wr w.heap.size v (([m / 256, m % 256]).take j)) ∧ Hid (Below w.heap.size w wr)) (fun _ i _ => ((intOf i) + 1).toNat)
      case atStart => exact ⟨0, by omega, by go_num, Lib.hid (Kd.R_nil _ _ _ _ _), HB⟩
      case round =>
        clear HB
        obtain ⟨j, hj, rfl, HR2, HB2⟩ := hrel
        rcases (by omega : j = 0 ∨ j = 1 ∨ j = 2) with rfl | rfl | rfl
        · go_wp2_with (first
            | ((with_reducible refine gate_builtin (b := .append) (xs := #[.tmp 33, .tmp 39]) rfl ?_); refine app1B (w0 := w) w.heap.size rfl _ _ rfl (p := m / 256) HR2.out rfl rfl HB2.out HB2.out.size (by simp) ?_; intro v3 w3 R3 B3 G3 N3; clear G3 N3 HR2 HB2; have R3 := Lib.hid R3; have B3 := Lib.hid B3))
          go_roundw
          case rel => exact ⟨0 + 1, by omega, by go_num, Lib.hid (by have h := R3.out; simpa using h), B3⟩
          case measure => simp [intOf]
        · go_wp2_with (first
            | ((with_reducible refine gate_builtin (b := .append) (xs := #[.tmp 33, .tmp 39]) rfl ?_); refine app1B (w0 := w) w.heap.size rfl _ _ rfl (p := m % 256) HR2.out rfl rfl HB2.out HB2.out.size (by simp) ?_; intro v3 w3 R3 B3 G3 N3; clear G3 N3 HR2 HB2; have R3 := Lib.hid R3; have B3 := Lib.hid B3))
          go_roundw
          case rel => exact ⟨1 + 1, by omega, by go_num, Lib.hid (by have h := R3.out; simpa using h), B3⟩
          case measure => simp [intOf]
        · have ho := HR2.out
          simp only [List.take] at ho
          obtain ⟨inner, hin⟩ := Kd.R_own ho
          obtain ⟨g, cap, rfl, hg0, hg1⟩ := hin.form (by simp)
          have hce := Kd.R_celln (0 : Int) ho 0 (by decide) (by simp)
          have hput := Kd.R_putn ho 0 (m / 256 + 64)
          have hbi := Lib.hid (HB2.out.setCell (p := ⟨g, 0, none⟩) hg0 (.int .u8 (m / 256 + 64)))
          have hcell : wr.cell? ⟨g, 0, none⟩ = some (.int .u8 (m / 256)) := hce.1
          have hfr : wr.frozen? ⟨g, 0, none⟩ = false := hce.2
          have ot := or_top (m / 256) 64 (by omega) (by omega) (by omega)
          have HP := Lib.hid hput
          clear hput hce hin ho
          go_wp2_with (first
            | ((with_reducible refine gate_builtin (b := .append) (xs := #[.tmp 49, .tmp 50]) rfl ?_); refine appB (w0 := w) w.heap.size rfl _ _ rfl (A := A1) (ys := l) HP.out rfl rfl rfl (Kd.C_below HR1.out hbi.out) hbi.out hbi.out.size (by simp; omega) ?_; intro v4 w4 R4 B4 G4 N4; clear G4 N4; have HB4 := Lib.hid B4; clear B4; obtain ⟨A4, c4, rfl, hc4, hC4, hA4⟩ := R4.read; have HC4 := Lib.hid hC4; clear R4 hC4 hcell hfr ot HP hbi HR2 HB2))
          refine (new_calls (xs := [m / 256 + 64, m % 256] ++ l) HC4.out hc4 (fit1 m l m0 m1 HW.out) (by simp; omega)).mono ?_
          rintro e w5 ⟨p, d, rfl, D5, B5, hp, hd⟩
          have N := num_calls D5 (by simp; omega)
          rw [back1 m l m0 m1] at N
          have HB5 := Lib.hid (HB4.out.trans (B5.mono HB4.out.size))
          have HNN := Lib.hid N
          have hp2 := Nat.le_trans HB4.out.size hp
          clear B5 D5 N
          go_wp2_with fail
          refine HNN.out.mono ?_
          clear HNN
          rintro e w6 ⟨rfl, D6, K6⟩
          have HD6 := Lib.hid D6
          have HB6 := Lib.hid (K6.below HB5.out HB5.out.size hp2)
          clear D6 K6
          go_wp2_with fail
          refine (left_calls HD6.out).mono ?_
          rintro e w7 ⟨rfl, rfl⟩
          go_wp2_with fail
          refine (code_calls HD6.out).mono ?_
          rintro e w7 ⟨rfl, rfl⟩
          go_wp2_with fail
          go_roundw
          case rel => exact ⟨by simp, HB6⟩
          case measure => simp [intOf]
    · -- 4 bytes
      go_wp2_with fail
      have m0 : 0 ≤ n % 1073741824 := by omega
      have m1 : n % 1073741824 < 1073741824 := by omega
      generalize n % 1073741824 = m at *
      go_loopw [8, 9] (fun v i wr => ∃ j : Nat, j ≤ 4 ∧ i = .int .i64 (3 - (j : Int)) ∧ Hid (RB wr w.heap.size v (([m / 16777216, m / 65536 % 256, m / 256 % 256, m % 256]).take j)) ∧ Hid (Below w.heap.size w wr)) (fun _ i _ => ((intOf i) + 1).toNat)
      case atStart => exact ⟨0, by omega, by go_num, Lib.hid (Kd.R_nil _ _ _ _ _), HB⟩
      case round =>
        clear HB
        obtain ⟨j, hj, rfl, HR2, HB2⟩ := hrel
        rcases (by omega : j = 0 ∨ j = 1 ∨ j = 2 ∨ j = 3 ∨ j = 4) with rfl | rfl | rfl | rfl | rfl
        · go_wp2_with (first
            | ((with_reducible refine gate_builtin (b := .append) (xs := #[.tmp 33, .tmp 39]) rfl ?_); refine app1B (w0 := w) w.heap.size rfl _ _ rfl (p := m / 16777216) HR2.out rfl rfl HB2.out HB2.out.size (by simp) ?_; intro v3 w3 R3 B3 G3 N3; clear G3 N3 HR2 HB2; have R3 := Lib.hid R3; have B3 := Lib.hid B3))
          go_roundw
          case rel => exact ⟨0 + 1, by omega, by go_num, Lib.hid (by have h := R3.out; simpa using h), B3⟩
          case measure => simp [intOf]
        · go_wp2_with (first
            | ((with_reducible refine gate_builtin (b := .append) (xs := #[.tmp 33, .tmp 39]) rfl ?_); refine app1B (w0 := w) w.heap.size rfl _ _ rfl (p := m / 65536 % 256) HR2.out rfl rfl HB2.out HB2.out.size (by simp) ?_; intro v3 w3 R3 B3 G3 N3; clear G3 N3 HR2 HB2; have R3 := Lib.hid R3; have B3 := Lib.hid B3))
          go_roundw
          case rel => exact ⟨1 + 1, by omega, by go_num, Lib.hid (by have h := R3.out; simpa using h), B3⟩
          case measure => simp [intOf]
        · go_wp2_with (first
            | ((with_reducible refine gate_builtin (b := .append) (xs := #[.tmp 33, .tmp 39]) rfl ?_); refine app1B (w0 := w) w.heap.size rfl _ _ rfl (p := m / 256 % 256) HR2.out rfl rfl HB2.out HB2.out.size (by simp) ?_; intro v3 w3 R3 B3 G3 N3; clear G3 N3 HR2 HB2; have R3 := Lib.hid R3; have B3 := Lib.hid B3))
          go_roundw
          case rel => exact ⟨2 + 1, by omega, by go_num, Lib.hid (by have h := R3.out; simpa using h), B3⟩
          case measure => simp [intOf]
        · go_wp2_with (first
            | ((with_reducible refine gate_builtin (b := .append) (xs := #[.tmp 33, .tmp 39]) rfl ?_); refine app1B (w0 := w) w.heap.size rfl _ _ rfl (p := m % 256) HR2.out rfl rfl HB2.out HB2.out.size (by simp) ?_; intro v3 w3 R3 B3 G3 N3; clear G3 N3 HR2 HB2; have R3 := Lib.hid R3; have B3 := Lib.hid B3))
          go_roundw
          case rel => exact ⟨3 + 1, by omega, by go_num, Lib.hid (by have h := R3.out; simpa using h), B3⟩
          case measure => simp [intOf]
        · have ho := HR2.out
          simp only [List.take] at ho
          obtain ⟨inner, hin⟩ := Kd.R_own ho
          obtain ⟨g, cap, rfl, hg0, hg1⟩ := hin.form (by simp)
          have hce := Kd.R_celln (0 : Int) ho 0 (by decide) (by simp)
          have hput := Kd.R_putn ho 0 (m / 16777216 + 128)
          have hbi := Lib.hid (HB2.out.setCell (p := ⟨g, 0, none⟩) hg0 (.int .u8 (m / 16777216 + 128)))
          have hcell : wr.cell? ⟨g, 0, none⟩ = some (.int .u8 (m / 16777216)) := hce.1
          have hfr : wr.frozen? ⟨g, 0, none⟩ = false := hce.2
          have ot := or_top (m / 16777216) 128 (by omega) (by omega) (by omega)
          have HP := Lib.hid hput
          clear hput hce hin ho
          go_wp2_with (first
            | ((with_reducible refine gate_builtin (b := .append) (xs := #[.tmp 49, .tmp 50]) rfl ?_); refine appB (w0 := w) w.heap.size rfl _ _ rfl (A := A1) (ys := l) HP.out rfl rfl rfl (Kd.C_below HR1.out hbi.out) hbi.out hbi.out.size (by simp; omega) ?_; intro v4 w4 R4 B4 G4 N4; clear G4 N4; have HB4 := Lib.hid B4; clear B4; obtain ⟨A4, c4, rfl, hc4, hC4, hA4⟩ := R4.read; have HC4 := Lib.hid hC4; clear R4 hC4 hcell hfr ot HP hbi HR2 HB2))
          refine (new_calls (xs := [m / 16777216 + 128, m / 65536 % 256, m / 256 % 256, m % 256] ++ l) HC4.out hc4 (fit2 m l m0 m1 HW.out) (by simp; omega)).mono ?_
          rintro e w5 ⟨p, d, rfl, D5, B5, hp, hd⟩
          have N := num_calls D5 (by simp; omega)
          rw [back2 m l m0 m1] at N
          have HB5 := Lib.hid (HB4.out.trans (B5.mono HB4.out.size))
          have HNN := Lib.hid N
          have hp2 := Nat.le_trans HB4.out.size hp
          clear B5 D5 N
          go_wp2_with fail
          refine HNN.out.mono ?_
          clear HNN
          rintro e w6 ⟨rfl, D6, K6⟩
          have HD6 := Lib.hid D6
          have HB6 := Lib.hid (K6.below HB5.out HB5.out.size hp2)
          clear D6 K6
          go_wp2_with fail
          refine (left_calls HD6.out).mono ?_
          rintro e w7 ⟨rfl, rfl⟩
          go_wp2_with fail
          refine (code_calls HD6.out).mono ?_
          rintro e w7 ⟨rfl, rfl⟩
          go_wp2_with fail
          go_roundw
          case rel => exact ⟨by simp, HB6⟩
          case measure => simp [intOf]
    · -- 8 bytes
      go_wp2_with fail
      have m0 : 0 ≤ n % 4611686018427387904 := by omega
      have m1 : n % 4611686018427387904 < 4611686018427387904 := by omega
      generalize n % 4611686018427387904 = m at *
      go_loopw [8, 9] (fun v i wr => ∃ j : Nat, j ≤ 8 ∧ i = .int .i64 (7 - (j : Int)) ∧ Hid (RB wr w.heap.size v (([m / 72057594037927936, m / 281474976710656 % 256, m / 1099511627776 % 256, m / 4294967296 % 256, m / 16777216 % 256, m / 65536 % 256, m / 256 % 256, m % 256]).take j)) ∧ Hid (Below w.heap.size w wr)) (fun _ i _ => ((intOf i) + 1).toNat)
      case atStart => exact ⟨0, by omega, by go_num, Lib.hid (Kd.R_nil _ _ _ _ _), HB⟩
      case round =>
        clear HB
        obtain ⟨j, hj, rfl, HR2, HB2⟩ := hrel
        rcases (by omega : j = 0 ∨ j = 1 ∨ j = 2 ∨ j = 3 ∨ j = 4 ∨ j = 5 ∨ j = 6 ∨ j = 7 ∨ j = 8) with rfl | rfl | rfl | rfl | rfl | rfl | rfl | rfl | rfl
        · go_wp2_with (first
            | ((with_reducible refine gate_builtin (b := .append) (xs := #[.tmp 33, .tmp 39]) rfl ?_); refine app1B (w0 := w) w.heap.size rfl _ _ rfl (p := m / 72057594037927936) HR2.out rfl rfl HB2.out HB2.out.size (by simp) ?_; intro v3 w3 R3 B3 G3 N3; clear G3 N3 HR2 HB2; have R3 := Lib.hid R3; have B3 := Lib.hid B3))
          go_roundw
          case rel => exact ⟨0 + 1, by omega, by go_num, Lib.hid (by have h := R3.out; simpa using h), B3⟩
          case measure => simp [intOf]
        · go_wp2_with (first
            | ((with_reducible refine gate_builtin (b := .append) (xs := #[.tmp 33, .tmp 39]) rfl ?_); refine app1B (w0 := w) w.heap.size rfl _ _ rfl (p := m / 281474976710656 % 256) HR2.out rfl rfl HB2.out HB2.out.size (by simp) ?_; intro v3 w3 R3 B3 G3 N3; clear G3 N3 HR2 HB2; have R3 := Lib.hid R3; have B3 := Lib.hid B3))
          go_roundw
          case rel => exact ⟨1 + 1, by omega, by go_num, Lib.hid (by have h := R3.out; simpa using h), B3⟩
          case measure => simp [intOf]
        · go_wp2_with (first
            | ((with_reducible refine gate_builtin (b := .append) (xs := #[.tmp 33, .tmp 39]) rfl ?_); refine app1B (w0 := w) w.heap.size rfl _ _ rfl (p := m / 1099511627776 % 256) HR2.out rfl rfl HB2.out HB2.out.size (by simp) ?_; intro v3 w3 R3 B3 G3 N3; clear G3 N3 HR2 HB2; have R3 := Lib.hid R3; have B3 := Lib.hid B3))
          go_roundw
          case rel => exact ⟨2 + 1, by omega, by go_num, Lib.hid (by have h := R3.out; simpa using h), B3⟩
          case measure => simp [intOf]
        · go_wp2_with (first
            | ((with_reducible refine gate_builtin (b := .append) (xs := #[.tmp 33, .tmp 39]) rfl ?_); refine app1B (w0 := w) w.heap.size rfl _ _ rfl (p := m / 4294967296 % 256) HR2.out rfl rfl HB2.out HB2.out.size (by simp) ?_; intro v3 w3 R3 B3 G3 N3; clear G3 N3 HR2 HB2; have R3 := Lib.hid R3; have B3 := Lib.hid B3))
          go_roundw
          case rel => exact ⟨3 + 1, by omega, by go_num, Lib.hid (by have h := R3.out; simpa using h), B3⟩
          case measure => simp [intOf]
        · go_wp2_with (first
            | ((with_reducible refine gate_builtin (b := .append) (xs := #[.tmp 33, .tmp 39]) rfl ?_); refine app1B (w0 := w) w.heap.size rfl _ _ rfl (p := m / 16777216 % 256) HR2.out rfl rfl HB2.out HB2.out.size (by simp) ?_; intro v3 w3 R3 B3 G3 N3; clear G3 N3 HR2 HB2; have R3 := Lib.hid R3; have B3 := Lib.hid B3))
          go_roundw
          case rel => exact ⟨4 + 1, by omega, by go_num, Lib.hid (by have h := R3.out; simpa using h), B3⟩
          case measure => simp [intOf]
        · go_wp2_with (first
            | ((with_reducible refine gate_builtin (b := .append) (xs := #[.tmp 33, .tmp 39]) rfl ?_); refine app1B (w0 := w) w.heap.size rfl _ _ rfl (p := m / 65536 % 256) HR2.out rfl rfl HB2.out HB2.out.size (by simp) ?_; intro v3 w3 R3 B3 G3 N3; clear G3 N3 HR2 HB2; have R3 := Lib.hid R3; have B3 := Lib.hid B3))
          go_roundw
          case rel => exact ⟨5 + 1, by omega, by go_num, Lib.hid (by have h := R3.out; simpa using h), B3⟩
          case measure => simp [intOf]
        · go_wp2_with (first
            | ((with_reducible refine gate_builtin (b := .append) (xs := #[.tmp 33, .tmp 39]) rfl ?_); refine app1B (w0 := w) w.heap.size rfl _ _ rfl (p := m / 256 % 256) HR2.out rfl rfl HB2.out HB2.out.size (by simp) ?_; intro v3 w3 R3 B3 G3 N3; clear G3 N3 HR2 HB2; have R3 := Lib.hid R3; have B3 := Lib.hid B3))
          go_roundw
          case rel => exact ⟨6 + 1, by omega, by go_num, Lib.hid (by have h := R3.out; simpa using h), B3⟩
          case measure => simp [intOf]
        · go_wp2_with (first
            | ((with_reducible refine gate_builtin (b := .append) (xs := #[.tmp 33, .tmp 39]) rfl ?_); refine app1B (w0 := w) w.heap.size rfl _ _ rfl (p := m % 256) HR2.out rfl rfl HB2.out HB2.out.size (by simp) ?_; intro v3 w3 R3 B3 G3 N3; clear G3 N3 HR2 HB2; have R3 := Lib.hid R3; have B3 := Lib.hid B3))
          go_roundw
          case rel => exact ⟨7 + 1, by omega, by go_num, Lib.hid (by have h := R3.out; simpa using h), B3⟩
          case measure => simp [intOf]
        · have ho := HR2.out
          simp only [List.take] at ho
          obtain ⟨inner, hin⟩ := Kd.R_own ho
          obtain ⟨g, cap, rfl, hg0, hg1⟩ := hin.form (by simp)
          have hce := Kd.R_celln (0 : Int) ho 0 (by decide) (by simp)
          have hput := Kd.R_putn ho 0 (m / 72057594037927936 + 192)
          have hbi := Lib.hid (HB2.out.setCell (p := ⟨g, 0, none⟩) hg0 (.int .u8 (m / 72057594037927936 + 192)))
          have hcell : wr.cell? ⟨g, 0, none⟩ = some (.int .u8 (m / 72057594037927936)) := hce.1
          have hfr : wr.frozen? ⟨g, 0, none⟩ = false := hce.2
          have ot := or_top (m / 72057594037927936) 192 (by omega) (by omega) (by omega)
          have HP := Lib.hid hput
          clear hput hce hin ho
          go_wp2_with (first
            | ((with_reducible refine gate_builtin (b := .append) (xs := #[.tmp 49, .tmp 50]) rfl ?_); refine appB (w0 := w) w.heap.size rfl _ _ rfl (A := A1) (ys := l) HP.out rfl rfl rfl (Kd.C_below HR1.out hbi.out) hbi.out hbi.out.size (by simp; omega) ?_; intro v4 w4 R4 B4 G4 N4; clear G4 N4; have HB4 := Lib.hid B4; clear B4; obtain ⟨A4, c4, rfl, hc4, hC4, hA4⟩ := R4.read; have HC4 := Lib.hid hC4; clear R4 hC4 hcell hfr ot HP hbi HR2 HB2))
          refine (new_calls (xs := [m / 72057594037927936 + 192, m / 281474976710656 % 256, m / 1099511627776 % 256, m / 4294967296 % 256, m / 16777216 % 256, m / 65536 % 256, m / 256 % 256, m % 256] ++ l) HC4.out hc4 (fit3 m l m0 m1 HW.out) (by simp; omega)).mono ?_
          rintro e w5 ⟨p, d, rfl, D5, B5, hp, hd⟩
          have N := num_calls D5 (by simp; omega)
          rw [back3 m l m0 m1] at N
          have HB5 := Lib.hid (HB4.out.trans (B5.mono HB4.out.size))
          have HNN := Lib.hid N
          have hp2 := Nat.le_trans HB4.out.size hp
          clear B5 D5 N
          go_wp2_with fail
          refine HNN.out.mono ?_
          clear HNN
          rintro e w6 ⟨rfl, D6, K6⟩
          have HD6 := Lib.hid D6
          have HB6 := Lib.hid (K6.below HB5.out HB5.out.size hp2)
          clear D6 K6
          go_wp2_with fail
          refine (left_calls HD6.out).mono ?_
          rintro e w7 ⟨rfl, rfl⟩
          go_wp2_with fail
          refine (code_calls HD6.out).mono ?_
          rintro e w7 ⟨rfl, rfl⟩
          go_wp2_with fail
          go_roundw
          case rel => exact ⟨by simp, HB6⟩
          case measure => simp [intOf]
    · go_wp2_with fail
      go_ret
      exact ⟨rfl, HB.out⟩

theorem law {w : World} {A1 : Option Addr} {c1 : Nat} {l : List Int} (n : Int) (hn : (Lit.int .u64 n).wf = true) (hr1 : CB w A1 l) (hc1 : l.length ≤ c1) (hw : ∀ x ∈ l, (Lit.int .u8 x).wf = true) :
    Calls Try.prog 8 #[.int .u64 n, .slice A1 l.length c1] w fun e w' => e = .returned (.bool true) ∧ Below w.heap.size w w' := by
  simp [Lit.wf, IntKind.min, IntKind.max, IntKind.bits, IntKind.signed] at hn
  by_cases hl : l.length ≤ 100
  · refine small n (by omega) (by omega) hr1 hc1 (fun x hx => ?_) hl
    have h := hw x hx
    simp [Lit.wf, IntKind.min, IntKind.max, IntKind.bits, IntKind.signed] at h
    omega
  · have hgt : 100 < l.length := by omega
    clear hl
    go_enter Try.func8, Try.ntmps8
    go_wp2_with fail
    refine (Awake10.awake _).mono ?_
    rintro e w1 ⟨rfl, B1⟩
    go_wp2_with fail
    go_ret
    exact ⟨rfl, B1⟩

end Go.Proofs.Ytmccghadgihbpaa.VarintWideWalk
