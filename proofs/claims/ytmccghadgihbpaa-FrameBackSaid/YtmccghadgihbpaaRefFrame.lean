/- skiffref10.Frame: it answers as frame.Encode does. -/
import Derived.Test.YtmccghadgihbpaaEncAck
import Derived.Test.YtmccghadgihbpaaRefAll
import Derived.Deep.CutBlock
import Derived.Deep.RegionWith
namespace Go.Proofs.Ytmccghadgihbpaa.RefFrame
open Go Go.RowKit Go.Proofs.Ytmccghadgihbpaa.PFrameBack Go.Proofs.YtmccghadgihbpaaW.PrintWords Go.Proofs.YtmccghadgihbpaaW.PrintLast Go.Proofs.YtmccghadgihbpaaW.PrintMore Go.Proofs.Ytmccghadgihbpaa.Keep Go.Proofs.Ytmccghadgihbpaa.Mem Go.Proofs.Ytmccghadgihbpaa.VPut Go.Proofs.Ytmccghadgihbpaa.With Go.Proofs.Ytmccghadgihbpaa.Spans Go.Proofs.Ytmccghadgihbpaa.Encode Go.Proofs.Ytmccghadgihbpaa.MemU Go.Proofs.Ytmccghadgihbpaa.EncAck Go.Proofs.Ytmccghadgihbpaa.RefAll
set_option linter.unusedVariables false

section
variable {ops : Array Oper} {rest : List Oper} {o : Oper} {a : Act} {Q : Exit → Act → World → Prop} {W w0 : World}
/-- A literal of numbers, as one operation of a sequence. -/
theorem litUL (base : Nat) (hgd : o.guard = none) {N : Tmp} (hd : o.dst = some N) (xs : List Int)
    (hrun : (execOp a.eval o).run Try.prog W = .ok (.value (.slice (some ⟨W.heap.size, 0, none⟩) xs.length xs.length)) (W.alloc (.cells (xs.map (Value.int .u64)).toArray 22)))
    (hB : Below base w0 W) (hbase : base ≤ W.heap.size) (hl : xs.length ≤ 1000000)
    (h : ∀ v1 w1, RU w1 base v1 xs → Below base w0 w1 → wpList Try.prog ops Q rest (a.put o.dst v1) w1) : wpList Try.prog ops Q (o :: rest) a W :=
  Kd.R_lit (Kd.int .u64) (w0 := w0) base 22 hgd hd (xs := xs) (inner := xs.map (Value.int .u64)) (ok := fun _ => True) (okp := fun _ => True) hrun (reps_int _ _ _ _ _) (fun _ h => h) trivial hB hbase (by omega) (fun v1 w1 R B _ _ => h v1 w1 R B)

/-- 'append(s, x...)', numbers, as one operation of a sequence. -/
theorem appUL (base : Nat) (hgd : o.guard = none) (s x : Operand) (ho : o.op = .call { callee := .builtin .append, args := #[s, x], argTypes := #[40, 40] })
    {v : Value} {xs ys : List Int} {A : Option Addr} {m c : Nat} (HO : RU W base v xs) (hs : a.eval s = v) (hx : a.eval x = .slice A m c) (hm : m = ys.length) (HR : CU W A ys) (hB : Below base w0 W) (hbase : base ≤ W.heap.size)
    (hl : xs.length + ys.length ≤ 17592186044416)
    (h : ∀ v1 w1, RU w1 base v1 (xs ++ ys) → Below base w0 w1 → wpList Try.prog ops Q rest (a.put o.dst v1) w1) : wpList Try.prog ops Q (o :: rest) a W := by
  subst hm
  exact Kd.R_append_rows (Kd.int .u64) (w0 := w0) base hgd s x 40 22 (.int .u64 0) 8 ho Try.underlying40 info64 rfl (by decide) (by decide) v xs ys A ys.length c (fun _ => True) (fun _ => False) hs hx HO HR (fun _ _ hh => hh) (fun _ hk => hk.elim) (fun _ _ => trivial) hB hbase (by omega) (fun v1 w1 R B _ _ => h v1 w1 R B)
end

def knownB (k : Int) : Bool := k == 0 || k == 1 || k == 2 || k == 4 || k == 5 || k == 6 || k == 8 || k == 16 || k == 17 || k == 18 || k == 28 || k == 30

theorem known_calls (k : Int) (w : World) : Calls Try.prog 51 #[.int .u64 k] w fun e w' => e = .returned (.bool (knownB k)) ∧ Below w.heap.size w w' := by
  have h : skiffref10_known.f k = some (knownB k) := by
    unfold skiffref10_known.f knownB
    repeat' split
    all_goals simp_all
  refine (skiffref10_known.calls k _ w h).mono ?_
  rintro e w' ⟨rfl, n, rfl⟩
  exact ⟨rfl, pw_below_drewN (Below.refl _ _) n⟩

theorem putNone {w : World} {A1 : Option Addr} {c1 : Nat} {l : List Int} (hr1 : CU w A1 l) (hc1 : l.length ≤ c1) (hw : ∀ n ∈ l, 0 ≤ n ∧ n < 18446744073709551616) (hl : l.length ≤ 1000000) (h : vput [] l = none) :
    Calls Try.prog 27 #[.slice none 0 0, .slice A1 l.length c1] w fun e w' => ∃ v, e = .returned (.tuple #[v, .bool false]) ∧ Below w.heap.size w w' := by
  refine (putNil_calls hr1 hc1 hw (by omega)).mono ?_
  rintro e w' ⟨v, rfl, -, B⟩
  rw [h]
  exact ⟨v, rfl, B⟩
theorem putSome {w : World} {A1 : Option Addr} {c1 : Nat} {l o : List Int} (hr1 : CU w A1 l) (hc1 : l.length ≤ c1) (hw : ∀ n ∈ l, 0 ≤ n ∧ n < 18446744073709551616) (hl : l.length ≤ 1000000) (h : vput [] l = some o) :
    Calls Try.prog 27 #[.slice none 0 0, .slice A1 l.length c1] w fun e w' => ∃ v, e = .returned (.tuple #[v, .bool true]) ∧ RB w' w.heap.size v o ∧ Below w.heap.size w w' := by
  refine (putNil_calls hr1 hc1 hw (by omega)).mono ?_
  rintro e w' ⟨v, rfl, R, B⟩
  unfold vputR at R
  rw [h] at R
  rw [h]
  exact ⟨v, rfl, R, B⟩

set_option maxHeartbeats 8000000 in
set_option maxRecDepth 100000 in
theorem ref_0 {w : World} (f1 f2 f3 f4 : Int) (f5 : Bool) {A6 A7 : Option Addr} {c6 c7 : Nat} {data : List Int} {acks : List S84} (b1 : Encode.bd f1) (b2 : Encode.bd f2) (b3 : Encode.bd f3) (b4 : Encode.bd f4) (hC6 : CB w A6 data) (hc6 : data.length ≤ c6) (hd : data.length ≤ 3000) (hC7 : Kd.C k84 w A7 acks.length acks) (hc7 : acks.length ≤ c7) (hba : bds acks) (hla : acks.length ≤ 1000) :
    Calls Try.prog 39 #[.agg #[.int .u64 0, .int .u64 f1, .int .u64 f2, .int .u64 f3, .int .u64 f4, .bool f5, .slice A6 data.length c6, .slice A7 acks.length c7]] w fun e w' => ∃ v, e = .returned (.tuple #[v, .int .i64 (encF okS ackOf ⟨0, f1, f2, f3, f4, f5, data, acks⟩).2]) ∧ RB w' w.heap.size v (encF okS ackOf ⟨0, f1, f2, f3, f4, f5, data, acks⟩).1 ∧ Below w.heap.size w w' := by
  obtain ⟨t, ht⟩ : ∃ t, encF okS ackOf ⟨0, f1, f2, f3, f4, f5, data, acks⟩ = t := ⟨_, rfl⟩
  rw [ht]
  have HT := Lib.hid ht
  have hk := heap_alloc_new w (.cells #[.int .u64 0, .int .u64 f1, .int .u64 f2, .int .u64 f3, .int .u64 f4, .bool f5, .slice A6 data.length c6, .slice A7 acks.length c7] 58)
  have BL := (Below.refl w.heap.size w).alloc (Nat.le_refl _) (.cells #[.int .u64 0, .int .u64 f1, .int .u64 f2, .int .u64 f3, .int .u64 f4, .bool f5, .slice A6 data.length c6, .slice A7 acks.length c7] 58)
  obtain ⟨w1, hw1⟩ : ∃ w1 : World, w1 = w.alloc (.cells #[.int .u64 0, .int .u64 f1, .int .u64 f2, .int .u64 f3, .int .u64 f4, .bool f5, .slice A6 data.length c6, .slice A7 acks.length c7] 58) := ⟨_, rfl⟩
  rw [← hw1] at hk BL
  have HW1 := Lib.hid hw1
  have HK := Lib.hid hk
  have HBL := Lib.hid BL
  obtain ⟨k0, k1, k2, k3, k4, k5, k6, k7⟩ := cells8 hk
  have HC6 := Lib.hid (Kd.C_below hC6 BL)
  have HC7 := Lib.hid (Kd.C_below hC7 BL)
  have HBA := Lib.hid hba
  have HB1 := Lib.hid b1
  have HB2 := Lib.hid b2
  have HB3 := Lib.hid b3
  have HB4 := Lib.hid b4
  have hlw : IntKind.u64.wrap (data.length : Int) = data.length := by rw [IntKind.wrap_u64]; omega
  clear hw1 hk BL hC6 hC7 ht hba b1 b2 b3 b4
  go_enter Try.func39, Try.ntmps39
  go_upto_region 1 with fail
  rw [← HW1.out]
  clear HW1
  by_cases hlong : (data.length : Int) > 2048
  · go_wp2_with fail
    go_ret2
    have et := HT.out
    unfold encF at et
    rw [if_pos hlong] at et
    subst et
    exact ⟨_, rfl, Kd.R_nil _ _ _ _ _, HBL.out⟩
  · by_cases hn : (data.length : Int) > 0
    · have et := HT.out
      unfold encF at et
      rw [if_neg hlong, if_pos ⟨hn, by simp, by simp, by simp⟩] at et
      subst et
      go_wp2_with fail
      go_ret2
      exact ⟨_, rfl, Kd.R_nil _ _ _ _ _, HBL.out⟩
    · have et := HT.out
      unfold encF at et
      rw [if_neg hlong, if_neg (fun h => hn h.1)] at et
      have HE := Lib.hid et
      clear et
      go_wp2_with fail
      have hkn := known_calls 0 w1
      rw [show knownB 0 = true from rfl] at hkn
      refine hkn.mono ?_
      clear hkn
      rintro e w2 ⟨rfl, Bx⟩
      have HBx := Lib.hid Bx
      obtain ⟨k0, k1, k2, k3, k4, k5, k6, k7⟩ := cells8 (blk_below HK.out Bx)
      clear Bx
      go_wp2_with (first
        | ((with_reducible refine gate_dst (N := 39) rfl ?_); refine litUL (w0 := w2) w2.heap.size rfl (N := 39) rfl [0] ?hr (Below.refl _ _) (Nat.le_refl _) (by simp) ?_; (case hr => first | (go_simp; done) | (go_simp; rfl)); intro v3 w3 R3 B3; clear k0 k1 k2 k3 k4 k5 k6 k7; obtain ⟨k0, k1, k2, k3, k4, k5, k6, k7⟩ := cells8 (blk_below HK.out (HBx.out.trans (B3.mono HBx.out.size)))))
      obtain ⟨A9, c9, e9, hc9, hC9, -⟩ := RU.read R3
      subst e9
      have hB9 := HBL.out.trans ((HBx.out.trans (B3.mono HBx.out.size)).mono HBL.out.size)
      have HB9 := Lib.hid hB9
      have HK9 := Lib.hid (blk_below HK.out (HBx.out.trans (B3.mono HBx.out.size)))
      have HC69 := Lib.hid (Kd.C_below HC6.out (HBx.out.trans (B3.mono HBx.out.size)))
      have hw9 : ∀ n ∈ ([0] : List Int), 0 ≤ n ∧ n < 18446744073709551616 := by
        intro n hn
        simp only [List.mem_cons, List.not_mem_nil, or_false] at hn
        have q1 := HB1.out; have q2 := HB2.out; have q3 := HB3.out; have q4 := HB4.out
        unfold Encode.bd at *
        omega
      obtain ⟨o, ho⟩ : ∃ o, vput [] [0] = o := ⟨_, rfl⟩
      cases o with
      | none =>
        have hp := putNone (l := [0]) hC9 hc9 hw9 (by simp) ho
        have HP := Lib.hid hp
        have HO := Lib.hid ho
        clear hp ho hw9 hC9 R3 B3 hB9
        refine HP.out.mono ?_
        rintro e w5 ⟨v5, rfl, B5⟩
        go_wp2_with fail
        go_ret2
        have et := HE.out
        simp [numsOf, withR, HO.out] at et
        subst et
        exact ⟨_, rfl, Kd.R_nil _ _ _ _ _, HB9.out.trans (B5.mono HB9.out.size)⟩
      | some o =>
        have hol : o.length ≤ 0 + 8 * ([0] : List Int).length := vput_len ho
        simp only [List.length_cons, List.length_nil] at hol
        have hp := putSome (l := [0]) hC9 hc9 hw9 (by simp) ho
        have HP := Lib.hid hp
        have HO := Lib.hid ho
        clear hp ho hw9 hC9 R3 B3 hB9
        refine HP.out.mono ?_
        rintro e w5 ⟨v5, rfl, R5, B5⟩
        have k6 := blk_cell (blk_below HK9.out B5) 6
        go_wp2_with (first
          | ((with_reducible refine gate_builtin (b := .append) (xs := #[.tmp 201, .tmp 203]) rfl ?_); refine appB (w0 := _) _ rfl (.tmp 201) (.tmp 203) rfl (A := A6) (ys := data) R5 rfl rfl rfl (Kd.C_below HC69.out B5) B5 B5.size (by omega) ?_; intro v6 w6 R6 B6 G6 N6; clear G6 N6 k6))
        go_ret2
        have et := HE.out
        simp [numsOf, withR, HO.out] at et
        subst et
        exact ⟨_, rfl, Kd.R_lower R6 HB9.out.size, HB9.out.trans (B6.mono HB9.out.size)⟩

set_option maxHeartbeats 8000000 in
set_option maxRecDepth 100000 in
theorem ref_1 {w : World} (f1 f2 f3 f4 : Int) (f5 : Bool) {A6 A7 : Option Addr} {c6 c7 : Nat} {data : List Int} {acks : List S84} (b1 : Encode.bd f1) (b2 : Encode.bd f2) (b3 : Encode.bd f3) (b4 : Encode.bd f4) (hC6 : CB w A6 data) (hc6 : data.length ≤ c6) (hd : data.length ≤ 3000) (hC7 : Kd.C k84 w A7 acks.length acks) (hc7 : acks.length ≤ c7) (hba : bds acks) (hla : acks.length ≤ 1000) :
    Calls Try.prog 39 #[.agg #[.int .u64 1, .int .u64 f1, .int .u64 f2, .int .u64 f3, .int .u64 f4, .bool f5, .slice A6 data.length c6, .slice A7 acks.length c7]] w fun e w' => ∃ v, e = .returned (.tuple #[v, .int .i64 (encF okS ackOf ⟨1, f1, f2, f3, f4, f5, data, acks⟩).2]) ∧ RB w' w.heap.size v (encF okS ackOf ⟨1, f1, f2, f3, f4, f5, data, acks⟩).1 ∧ Below w.heap.size w w' := by
  obtain ⟨t, ht⟩ : ∃ t, encF okS ackOf ⟨1, f1, f2, f3, f4, f5, data, acks⟩ = t := ⟨_, rfl⟩
  rw [ht]
  have HT := Lib.hid ht
  have hk := heap_alloc_new w (.cells #[.int .u64 1, .int .u64 f1, .int .u64 f2, .int .u64 f3, .int .u64 f4, .bool f5, .slice A6 data.length c6, .slice A7 acks.length c7] 58)
  have BL := (Below.refl w.heap.size w).alloc (Nat.le_refl _) (.cells #[.int .u64 1, .int .u64 f1, .int .u64 f2, .int .u64 f3, .int .u64 f4, .bool f5, .slice A6 data.length c6, .slice A7 acks.length c7] 58)
  obtain ⟨w1, hw1⟩ : ∃ w1 : World, w1 = w.alloc (.cells #[.int .u64 1, .int .u64 f1, .int .u64 f2, .int .u64 f3, .int .u64 f4, .bool f5, .slice A6 data.length c6, .slice A7 acks.length c7] 58) := ⟨_, rfl⟩
  rw [← hw1] at hk BL
  have HW1 := Lib.hid hw1
  have HK := Lib.hid hk
  have HBL := Lib.hid BL
  obtain ⟨k0, k1, k2, k3, k4, k5, k6, k7⟩ := cells8 hk
  have HC6 := Lib.hid (Kd.C_below hC6 BL)
  have HC7 := Lib.hid (Kd.C_below hC7 BL)
  have HBA := Lib.hid hba
  have HB1 := Lib.hid b1
  have HB2 := Lib.hid b2
  have HB3 := Lib.hid b3
  have HB4 := Lib.hid b4
  have hlw : IntKind.u64.wrap (data.length : Int) = data.length := by rw [IntKind.wrap_u64]; omega
  clear hw1 hk BL hC6 hC7 ht hba b1 b2 b3 b4
  go_enter Try.func39, Try.ntmps39
  go_upto_region 1 with fail
  rw [← HW1.out]
  clear HW1
  by_cases hlong : (data.length : Int) > 2048
  · go_wp2_with fail
    go_ret2
    have et := HT.out
    unfold encF at et
    rw [if_pos hlong] at et
    subst et
    exact ⟨_, rfl, Kd.R_nil _ _ _ _ _, HBL.out⟩
  · by_cases hn : (data.length : Int) > 0
    · have et := HT.out
      unfold encF at et
      rw [if_neg hlong, if_pos ⟨hn, by simp, by simp, by simp⟩] at et
      subst et
      go_wp2_with fail
      go_ret2
      exact ⟨_, rfl, Kd.R_nil _ _ _ _ _, HBL.out⟩
    · have et := HT.out
      unfold encF at et
      rw [if_neg hlong, if_neg (fun h => hn h.1)] at et
      have HE := Lib.hid et
      clear et
      go_wp2_with fail
      have hkn := known_calls 1 w1
      rw [show knownB 1 = true from rfl] at hkn
      refine hkn.mono ?_
      clear hkn
      rintro e w2 ⟨rfl, Bx⟩
      have HBx := Lib.hid Bx
      obtain ⟨k0, k1, k2, k3, k4, k5, k6, k7⟩ := cells8 (blk_below HK.out Bx)
      clear Bx
      go_wp2_with (first
        | ((with_reducible refine gate_dst (N := 39) rfl ?_); refine litUL (w0 := w2) w2.heap.size rfl (N := 39) rfl [1] ?hr (Below.refl _ _) (Nat.le_refl _) (by simp) ?_; (case hr => first | (go_simp; done) | (go_simp; rfl)); intro v3 w3 R3 B3; clear k0 k1 k2 k3 k4 k5 k6 k7; obtain ⟨k0, k1, k2, k3, k4, k5, k6, k7⟩ := cells8 (blk_below HK.out (HBx.out.trans (B3.mono HBx.out.size)))))
      obtain ⟨A9, c9, e9, hc9, hC9, -⟩ := RU.read R3
      subst e9
      have hB9 := HBL.out.trans ((HBx.out.trans (B3.mono HBx.out.size)).mono HBL.out.size)
      have HB9 := Lib.hid hB9
      have HK9 := Lib.hid (blk_below HK.out (HBx.out.trans (B3.mono HBx.out.size)))
      have HC69 := Lib.hid (Kd.C_below HC6.out (HBx.out.trans (B3.mono HBx.out.size)))
      have hw9 : ∀ n ∈ ([1] : List Int), 0 ≤ n ∧ n < 18446744073709551616 := by
        intro n hn
        simp only [List.mem_cons, List.not_mem_nil, or_false] at hn
        have q1 := HB1.out; have q2 := HB2.out; have q3 := HB3.out; have q4 := HB4.out
        unfold Encode.bd at *
        omega
      obtain ⟨o, ho⟩ : ∃ o, vput [] [1] = o := ⟨_, rfl⟩
      cases o with
      | none =>
        have hp := putNone (l := [1]) hC9 hc9 hw9 (by simp) ho
        have HP := Lib.hid hp
        have HO := Lib.hid ho
        clear hp ho hw9 hC9 R3 B3 hB9
        refine HP.out.mono ?_
        rintro e w5 ⟨v5, rfl, B5⟩
        go_wp2_with fail
        go_ret2
        have et := HE.out
        simp [numsOf, withR, HO.out] at et
        subst et
        exact ⟨_, rfl, Kd.R_nil _ _ _ _ _, HB9.out.trans (B5.mono HB9.out.size)⟩
      | some o =>
        have hol : o.length ≤ 0 + 8 * ([1] : List Int).length := vput_len ho
        simp only [List.length_cons, List.length_nil] at hol
        have hp := putSome (l := [1]) hC9 hc9 hw9 (by simp) ho
        have HP := Lib.hid hp
        have HO := Lib.hid ho
        clear hp ho hw9 hC9 R3 B3 hB9
        refine HP.out.mono ?_
        rintro e w5 ⟨v5, rfl, R5, B5⟩
        have k6 := blk_cell (blk_below HK9.out B5) 6
        go_wp2_with (first
          | ((with_reducible refine gate_builtin (b := .append) (xs := #[.tmp 201, .tmp 203]) rfl ?_); refine appB (w0 := _) _ rfl (.tmp 201) (.tmp 203) rfl (A := A6) (ys := data) R5 rfl rfl rfl (Kd.C_below HC69.out B5) B5 B5.size (by omega) ?_; intro v6 w6 R6 B6 G6 N6; clear G6 N6 k6))
        go_ret2
        have et := HE.out
        simp [numsOf, withR, HO.out] at et
        subst et
        exact ⟨_, rfl, Kd.R_lower R6 HB9.out.size, HB9.out.trans (B6.mono HB9.out.size)⟩

set_option maxHeartbeats 8000000 in
set_option maxRecDepth 100000 in
theorem ref_30 {w : World} (f1 f2 f3 f4 : Int) (f5 : Bool) {A6 A7 : Option Addr} {c6 c7 : Nat} {data : List Int} {acks : List S84} (b1 : Encode.bd f1) (b2 : Encode.bd f2) (b3 : Encode.bd f3) (b4 : Encode.bd f4) (hC6 : CB w A6 data) (hc6 : data.length ≤ c6) (hd : data.length ≤ 3000) (hC7 : Kd.C k84 w A7 acks.length acks) (hc7 : acks.length ≤ c7) (hba : bds acks) (hla : acks.length ≤ 1000) :
    Calls Try.prog 39 #[.agg #[.int .u64 30, .int .u64 f1, .int .u64 f2, .int .u64 f3, .int .u64 f4, .bool f5, .slice A6 data.length c6, .slice A7 acks.length c7]] w fun e w' => ∃ v, e = .returned (.tuple #[v, .int .i64 (encF okS ackOf ⟨30, f1, f2, f3, f4, f5, data, acks⟩).2]) ∧ RB w' w.heap.size v (encF okS ackOf ⟨30, f1, f2, f3, f4, f5, data, acks⟩).1 ∧ Below w.heap.size w w' := by
  obtain ⟨t, ht⟩ : ∃ t, encF okS ackOf ⟨30, f1, f2, f3, f4, f5, data, acks⟩ = t := ⟨_, rfl⟩
  rw [ht]
  have HT := Lib.hid ht
  have hk := heap_alloc_new w (.cells #[.int .u64 30, .int .u64 f1, .int .u64 f2, .int .u64 f3, .int .u64 f4, .bool f5, .slice A6 data.length c6, .slice A7 acks.length c7] 58)
  have BL := (Below.refl w.heap.size w).alloc (Nat.le_refl _) (.cells #[.int .u64 30, .int .u64 f1, .int .u64 f2, .int .u64 f3, .int .u64 f4, .bool f5, .slice A6 data.length c6, .slice A7 acks.length c7] 58)
  obtain ⟨w1, hw1⟩ : ∃ w1 : World, w1 = w.alloc (.cells #[.int .u64 30, .int .u64 f1, .int .u64 f2, .int .u64 f3, .int .u64 f4, .bool f5, .slice A6 data.length c6, .slice A7 acks.length c7] 58) := ⟨_, rfl⟩
  rw [← hw1] at hk BL
  have HW1 := Lib.hid hw1
  have HK := Lib.hid hk
  have HBL := Lib.hid BL
  obtain ⟨k0, k1, k2, k3, k4, k5, k6, k7⟩ := cells8 hk
  have HC6 := Lib.hid (Kd.C_below hC6 BL)
  have HC7 := Lib.hid (Kd.C_below hC7 BL)
  have HBA := Lib.hid hba
  have HB1 := Lib.hid b1
  have HB2 := Lib.hid b2
  have HB3 := Lib.hid b3
  have HB4 := Lib.hid b4
  have hlw : IntKind.u64.wrap (data.length : Int) = data.length := by rw [IntKind.wrap_u64]; omega
  clear hw1 hk BL hC6 hC7 ht hba b1 b2 b3 b4
  go_enter Try.func39, Try.ntmps39
  go_upto_region 1 with fail
  rw [← HW1.out]
  clear HW1
  by_cases hlong : (data.length : Int) > 2048
  · go_wp2_with fail
    go_ret2
    have et := HT.out
    unfold encF at et
    rw [if_pos hlong] at et
    subst et
    exact ⟨_, rfl, Kd.R_nil _ _ _ _ _, HBL.out⟩
  · by_cases hn : (data.length : Int) > 0
    · have et := HT.out
      unfold encF at et
      rw [if_neg hlong, if_pos ⟨hn, by simp, by simp, by simp⟩] at et
      subst et
      go_wp2_with fail
      go_ret2
      exact ⟨_, rfl, Kd.R_nil _ _ _ _ _, HBL.out⟩
    · have et := HT.out
      unfold encF at et
      rw [if_neg hlong, if_neg (fun h => hn h.1)] at et
      have HE := Lib.hid et
      clear et
      go_wp2_with fail
      have hkn := known_calls 30 w1
      rw [show knownB 30 = true from rfl] at hkn
      refine hkn.mono ?_
      clear hkn
      rintro e w2 ⟨rfl, Bx⟩
      have HBx := Lib.hid Bx
      obtain ⟨k0, k1, k2, k3, k4, k5, k6, k7⟩ := cells8 (blk_below HK.out Bx)
      clear Bx
      go_wp2_with (first
        | ((with_reducible refine gate_dst (N := 39) rfl ?_); refine litUL (w0 := w2) w2.heap.size rfl (N := 39) rfl [30] ?hr (Below.refl _ _) (Nat.le_refl _) (by simp) ?_; (case hr => first | (go_simp; done) | (go_simp; rfl)); intro v3 w3 R3 B3; clear k0 k1 k2 k3 k4 k5 k6 k7; obtain ⟨k0, k1, k2, k3, k4, k5, k6, k7⟩ := cells8 (blk_below HK.out (HBx.out.trans (B3.mono HBx.out.size)))))
      obtain ⟨A9, c9, e9, hc9, hC9, -⟩ := RU.read R3
      subst e9
      have hB9 := HBL.out.trans ((HBx.out.trans (B3.mono HBx.out.size)).mono HBL.out.size)
      have HB9 := Lib.hid hB9
      have HK9 := Lib.hid (blk_below HK.out (HBx.out.trans (B3.mono HBx.out.size)))
      have HC69 := Lib.hid (Kd.C_below HC6.out (HBx.out.trans (B3.mono HBx.out.size)))
      have hw9 : ∀ n ∈ ([30] : List Int), 0 ≤ n ∧ n < 18446744073709551616 := by
        intro n hn
        simp only [List.mem_cons, List.not_mem_nil, or_false] at hn
        have q1 := HB1.out; have q2 := HB2.out; have q3 := HB3.out; have q4 := HB4.out
        unfold Encode.bd at *
        omega
      obtain ⟨o, ho⟩ : ∃ o, vput [] [30] = o := ⟨_, rfl⟩
      cases o with
      | none =>
        have hp := putNone (l := [30]) hC9 hc9 hw9 (by simp) ho
        have HP := Lib.hid hp
        have HO := Lib.hid ho
        clear hp ho hw9 hC9 R3 B3 hB9
        refine HP.out.mono ?_
        rintro e w5 ⟨v5, rfl, B5⟩
        go_wp2_with fail
        go_ret2
        have et := HE.out
        simp [numsOf, withR, HO.out] at et
        subst et
        exact ⟨_, rfl, Kd.R_nil _ _ _ _ _, HB9.out.trans (B5.mono HB9.out.size)⟩
      | some o =>
        have hol : o.length ≤ 0 + 8 * ([30] : List Int).length := vput_len ho
        simp only [List.length_cons, List.length_nil] at hol
        have hp := putSome (l := [30]) hC9 hc9 hw9 (by simp) ho
        have HP := Lib.hid hp
        have HO := Lib.hid ho
        clear hp ho hw9 hC9 R3 B3 hB9
        refine HP.out.mono ?_
        rintro e w5 ⟨v5, rfl, R5, B5⟩
        have k6 := blk_cell (blk_below HK9.out B5) 6
        go_wp2_with (first
          | ((with_reducible refine gate_builtin (b := .append) (xs := #[.tmp 201, .tmp 203]) rfl ?_); refine appB (w0 := _) _ rfl (.tmp 201) (.tmp 203) rfl (A := A6) (ys := data) R5 rfl rfl rfl (Kd.C_below HC69.out B5) B5 B5.size (by omega) ?_; intro v6 w6 R6 B6 G6 N6; clear G6 N6 k6))
        go_ret2
        have et := HE.out
        simp [numsOf, withR, HO.out] at et
        subst et
        exact ⟨_, rfl, Kd.R_lower R6 HB9.out.size, HB9.out.trans (B6.mono HB9.out.size)⟩

set_option maxHeartbeats 8000000 in
set_option maxRecDepth 100000 in
theorem ref_4 {w : World} (f1 f2 f3 f4 : Int) (f5 : Bool) {A6 A7 : Option Addr} {c6 c7 : Nat} {data : List Int} {acks : List S84} (b1 : Encode.bd f1) (b2 : Encode.bd f2) (b3 : Encode.bd f3) (b4 : Encode.bd f4) (hC6 : CB w A6 data) (hc6 : data.length ≤ c6) (hd : data.length ≤ 3000) (hC7 : Kd.C k84 w A7 acks.length acks) (hc7 : acks.length ≤ c7) (hba : bds acks) (hla : acks.length ≤ 1000) :
    Calls Try.prog 39 #[.agg #[.int .u64 4, .int .u64 f1, .int .u64 f2, .int .u64 f3, .int .u64 f4, .bool f5, .slice A6 data.length c6, .slice A7 acks.length c7]] w fun e w' => ∃ v, e = .returned (.tuple #[v, .int .i64 (encF okS ackOf ⟨4, f1, f2, f3, f4, f5, data, acks⟩).2]) ∧ RB w' w.heap.size v (encF okS ackOf ⟨4, f1, f2, f3, f4, f5, data, acks⟩).1 ∧ Below w.heap.size w w' := by
  obtain ⟨t, ht⟩ : ∃ t, encF okS ackOf ⟨4, f1, f2, f3, f4, f5, data, acks⟩ = t := ⟨_, rfl⟩
  rw [ht]
  have HT := Lib.hid ht
  have hk := heap_alloc_new w (.cells #[.int .u64 4, .int .u64 f1, .int .u64 f2, .int .u64 f3, .int .u64 f4, .bool f5, .slice A6 data.length c6, .slice A7 acks.length c7] 58)
  have BL := (Below.refl w.heap.size w).alloc (Nat.le_refl _) (.cells #[.int .u64 4, .int .u64 f1, .int .u64 f2, .int .u64 f3, .int .u64 f4, .bool f5, .slice A6 data.length c6, .slice A7 acks.length c7] 58)
  obtain ⟨w1, hw1⟩ : ∃ w1 : World, w1 = w.alloc (.cells #[.int .u64 4, .int .u64 f1, .int .u64 f2, .int .u64 f3, .int .u64 f4, .bool f5, .slice A6 data.length c6, .slice A7 acks.length c7] 58) := ⟨_, rfl⟩
  rw [← hw1] at hk BL
  have HW1 := Lib.hid hw1
  have HK := Lib.hid hk
  have HBL := Lib.hid BL
  obtain ⟨k0, k1, k2, k3, k4, k5, k6, k7⟩ := cells8 hk
  have HC6 := Lib.hid (Kd.C_below hC6 BL)
  have HC7 := Lib.hid (Kd.C_below hC7 BL)
  have HBA := Lib.hid hba
  have HB1 := Lib.hid b1
  have HB2 := Lib.hid b2
  have HB3 := Lib.hid b3
  have HB4 := Lib.hid b4
  have hlw : IntKind.u64.wrap (data.length : Int) = data.length := by rw [IntKind.wrap_u64]; omega
  clear hw1 hk BL hC6 hC7 ht hba b1 b2 b3 b4
  go_enter Try.func39, Try.ntmps39
  go_upto_region 1 with fail
  rw [← HW1.out]
  clear HW1
  by_cases hlong : (data.length : Int) > 2048
  · go_wp2_with fail
    go_ret2
    have et := HT.out
    unfold encF at et
    rw [if_pos hlong] at et
    subst et
    exact ⟨_, rfl, Kd.R_nil _ _ _ _ _, HBL.out⟩
  · by_cases hn : (data.length : Int) > 0
    · have et := HT.out
      unfold encF at et
      rw [if_neg hlong, if_pos ⟨hn, by simp, by simp, by simp⟩] at et
      subst et
      go_wp2_with fail
      go_ret2
      exact ⟨_, rfl, Kd.R_nil _ _ _ _ _, HBL.out⟩
    · have et := HT.out
      unfold encF at et
      rw [if_neg hlong, if_neg (fun h => hn h.1)] at et
      have HE := Lib.hid et
      clear et
      go_wp2_with fail
      have hkn := known_calls 4 w1
      rw [show knownB 4 = true from rfl] at hkn
      refine hkn.mono ?_
      clear hkn
      rintro e w2 ⟨rfl, Bx⟩
      have HBx := Lib.hid Bx
      obtain ⟨k0, k1, k2, k3, k4, k5, k6, k7⟩ := cells8 (blk_below HK.out Bx)
      clear Bx
      go_wp2_with (first
        | ((with_reducible refine gate_dst (N := 39) rfl ?_); refine litUL (w0 := w2) w2.heap.size rfl (N := 39) rfl [4] ?hr (Below.refl _ _) (Nat.le_refl _) (by simp) ?_; (case hr => first | (go_simp; done) | (go_simp; rfl)); intro v3 w3 R3 B3; clear k0 k1 k2 k3 k4 k5 k6 k7; obtain ⟨k0, k1, k2, k3, k4, k5, k6, k7⟩ := cells8 (blk_below HK.out (HBx.out.trans (B3.mono HBx.out.size))))
        | ((with_reducible refine gate_builtin (b := .append) (xs := #[.tmp 114, .tmp 121]) rfl ?_); refine appUL (w0 := w2) w2.heap.size rfl (.tmp 114) (.tmp 121) rfl (Kd.R_below R3 (below_alloc (Below.refl _ _) _)) rfl rfl rfl (C_lit .u64 w3 22 [f1, f4, f3] (by simp)) (B3.alloc B3.size _) (Nat.le_trans B3.size (by simp)) (by simp) ?_; intro v4 w4 R4 B4; clear R3 B3; clear k0 k1 k2 k3 k4 k5 k6 k7; obtain ⟨k0, k1, k2, k3, k4, k5, k6, k7⟩ := cells8 (blk_below HK.out (HBx.out.trans (B4.mono HBx.out.size)))))
      obtain ⟨A9, c9, e9, hc9, hC9, -⟩ := RU.read R4
      subst e9
      have hB9 := HBL.out.trans ((HBx.out.trans (B4.mono HBx.out.size)).mono HBL.out.size)
      have HB9 := Lib.hid hB9
      have HK9 := Lib.hid (blk_below HK.out (HBx.out.trans (B4.mono HBx.out.size)))
      have HC69 := Lib.hid (Kd.C_below HC6.out (HBx.out.trans (B4.mono HBx.out.size)))
      have hw9 : ∀ n ∈ ([4, f1, f4, f3] : List Int), 0 ≤ n ∧ n < 18446744073709551616 := by
        intro n hn
        simp only [List.mem_cons, List.not_mem_nil, or_false] at hn
        have q1 := HB1.out; have q2 := HB2.out; have q3 := HB3.out; have q4 := HB4.out
        unfold Encode.bd at *
        omega
      obtain ⟨o, ho⟩ : ∃ o, vput [] [4, f1, f4, f3] = o := ⟨_, rfl⟩
      cases o with
      | none =>
        have hp := putNone (l := [4, f1, f4, f3]) hC9 hc9 hw9 (by simp) ho
        have HP := Lib.hid hp
        have HO := Lib.hid ho
        clear hp ho hw9 hC9 R4 B4 hB9
        refine HP.out.mono ?_
        rintro e w5 ⟨v5, rfl, B5⟩
        go_wp2_with fail
        go_ret2
        have et := HE.out
        simp [numsOf, withR, HO.out] at et
        subst et
        exact ⟨_, rfl, Kd.R_nil _ _ _ _ _, HB9.out.trans (B5.mono HB9.out.size)⟩
      | some o =>
        have hol : o.length ≤ 0 + 8 * ([4, f1, f4, f3] : List Int).length := vput_len ho
        simp only [List.length_cons, List.length_nil] at hol
        have hp := putSome (l := [4, f1, f4, f3]) hC9 hc9 hw9 (by simp) ho
        have HP := Lib.hid hp
        have HO := Lib.hid ho
        clear hp ho hw9 hC9 R4 B4 hB9
        refine HP.out.mono ?_
        rintro e w5 ⟨v5, rfl, R5, B5⟩
        have k6 := blk_cell (blk_below HK9.out B5) 6
        go_wp2_with (first
          | ((with_reducible refine gate_builtin (b := .append) (xs := #[.tmp 201, .tmp 203]) rfl ?_); refine appB (w0 := _) _ rfl (.tmp 201) (.tmp 203) rfl (A := A6) (ys := data) R5 rfl rfl rfl (Kd.C_below HC69.out B5) B5 B5.size (by omega) ?_; intro v6 w6 R6 B6 G6 N6; clear G6 N6 k6))
        go_ret2
        have et := HE.out
        simp [numsOf, withR, HO.out] at et
        subst et
        exact ⟨_, rfl, Kd.R_lower R6 HB9.out.size, HB9.out.trans (B6.mono HB9.out.size)⟩

set_option maxHeartbeats 8000000 in
set_option maxRecDepth 100000 in
theorem ref_5 {w : World} (f1 f2 f3 f4 : Int) (f5 : Bool) {A6 A7 : Option Addr} {c6 c7 : Nat} {data : List Int} {acks : List S84} (b1 : Encode.bd f1) (b2 : Encode.bd f2) (b3 : Encode.bd f3) (b4 : Encode.bd f4) (hC6 : CB w A6 data) (hc6 : data.length ≤ c6) (hd : data.length ≤ 3000) (hC7 : Kd.C k84 w A7 acks.length acks) (hc7 : acks.length ≤ c7) (hba : bds acks) (hla : acks.length ≤ 1000) :
    Calls Try.prog 39 #[.agg #[.int .u64 5, .int .u64 f1, .int .u64 f2, .int .u64 f3, .int .u64 f4, .bool f5, .slice A6 data.length c6, .slice A7 acks.length c7]] w fun e w' => ∃ v, e = .returned (.tuple #[v, .int .i64 (encF okS ackOf ⟨5, f1, f2, f3, f4, f5, data, acks⟩).2]) ∧ RB w' w.heap.size v (encF okS ackOf ⟨5, f1, f2, f3, f4, f5, data, acks⟩).1 ∧ Below w.heap.size w w' := by
  obtain ⟨t, ht⟩ : ∃ t, encF okS ackOf ⟨5, f1, f2, f3, f4, f5, data, acks⟩ = t := ⟨_, rfl⟩
  rw [ht]
  have HT := Lib.hid ht
  have hk := heap_alloc_new w (.cells #[.int .u64 5, .int .u64 f1, .int .u64 f2, .int .u64 f3, .int .u64 f4, .bool f5, .slice A6 data.length c6, .slice A7 acks.length c7] 58)
  have BL := (Below.refl w.heap.size w).alloc (Nat.le_refl _) (.cells #[.int .u64 5, .int .u64 f1, .int .u64 f2, .int .u64 f3, .int .u64 f4, .bool f5, .slice A6 data.length c6, .slice A7 acks.length c7] 58)
  obtain ⟨w1, hw1⟩ : ∃ w1 : World, w1 = w.alloc (.cells #[.int .u64 5, .int .u64 f1, .int .u64 f2, .int .u64 f3, .int .u64 f4, .bool f5, .slice A6 data.length c6, .slice A7 acks.length c7] 58) := ⟨_, rfl⟩
  rw [← hw1] at hk BL
  have HW1 := Lib.hid hw1
  have HK := Lib.hid hk
  have HBL := Lib.hid BL
  obtain ⟨k0, k1, k2, k3, k4, k5, k6, k7⟩ := cells8 hk
  have HC6 := Lib.hid (Kd.C_below hC6 BL)
  have HC7 := Lib.hid (Kd.C_below hC7 BL)
  have HBA := Lib.hid hba
  have HB1 := Lib.hid b1
  have HB2 := Lib.hid b2
  have HB3 := Lib.hid b3
  have HB4 := Lib.hid b4
  have hlw : IntKind.u64.wrap (data.length : Int) = data.length := by rw [IntKind.wrap_u64]; omega
  clear hw1 hk BL hC6 hC7 ht hba b1 b2 b3 b4
  go_enter Try.func39, Try.ntmps39
  go_upto_region 1 with fail
  rw [← HW1.out]
  clear HW1
  by_cases hlong : (data.length : Int) > 2048
  · go_wp2_with fail
    go_ret2
    have et := HT.out
    unfold encF at et
    rw [if_pos hlong] at et
    subst et
    exact ⟨_, rfl, Kd.R_nil _ _ _ _ _, HBL.out⟩
  · by_cases hn : (data.length : Int) > 0
    · have et := HT.out
      unfold encF at et
      rw [if_neg hlong, if_pos ⟨hn, by simp, by simp, by simp⟩] at et
      subst et
      go_wp2_with fail
      go_ret2
      exact ⟨_, rfl, Kd.R_nil _ _ _ _ _, HBL.out⟩
    · have et := HT.out
      unfold encF at et
      rw [if_neg hlong, if_neg (fun h => hn h.1)] at et
      have HE := Lib.hid et
      clear et
      go_wp2_with fail
      have hkn := known_calls 5 w1
      rw [show knownB 5 = true from rfl] at hkn
      refine hkn.mono ?_
      clear hkn
      rintro e w2 ⟨rfl, Bx⟩
      have HBx := Lib.hid Bx
      obtain ⟨k0, k1, k2, k3, k4, k5, k6, k7⟩ := cells8 (blk_below HK.out Bx)
      clear Bx
      go_wp2_with (first
        | ((with_reducible refine gate_dst (N := 39) rfl ?_); refine litUL (w0 := w2) w2.heap.size rfl (N := 39) rfl [5] ?hr (Below.refl _ _) (Nat.le_refl _) (by simp) ?_; (case hr => first | (go_simp; done) | (go_simp; rfl)); intro v3 w3 R3 B3; clear k0 k1 k2 k3 k4 k5 k6 k7; obtain ⟨k0, k1, k2, k3, k4, k5, k6, k7⟩ := cells8 (blk_below HK.out (HBx.out.trans (B3.mono HBx.out.size))))
        | ((with_reducible refine gate_builtin (b := .append) (xs := #[.tmp 125, .tmp 130]) rfl ?_); refine appUL (w0 := w2) w2.heap.size rfl (.tmp 125) (.tmp 130) rfl (Kd.R_below R3 (below_alloc (Below.refl _ _) _)) rfl rfl rfl (C_lit .u64 w3 22 [f1, f4] (by simp)) (B3.alloc B3.size _) (Nat.le_trans B3.size (by simp)) (by simp) ?_; intro v4 w4 R4 B4; clear R3 B3; clear k0 k1 k2 k3 k4 k5 k6 k7; obtain ⟨k0, k1, k2, k3, k4, k5, k6, k7⟩ := cells8 (blk_below HK.out (HBx.out.trans (B4.mono HBx.out.size)))))
      obtain ⟨A9, c9, e9, hc9, hC9, -⟩ := RU.read R4
      subst e9
      have hB9 := HBL.out.trans ((HBx.out.trans (B4.mono HBx.out.size)).mono HBL.out.size)
      have HB9 := Lib.hid hB9
      have HK9 := Lib.hid (blk_below HK.out (HBx.out.trans (B4.mono HBx.out.size)))
      have HC69 := Lib.hid (Kd.C_below HC6.out (HBx.out.trans (B4.mono HBx.out.size)))
      have hw9 : ∀ n ∈ ([5, f1, f4] : List Int), 0 ≤ n ∧ n < 18446744073709551616 := by
        intro n hn
        simp only [List.mem_cons, List.not_mem_nil, or_false] at hn
        have q1 := HB1.out; have q2 := HB2.out; have q3 := HB3.out; have q4 := HB4.out
        unfold Encode.bd at *
        omega
      obtain ⟨o, ho⟩ : ∃ o, vput [] [5, f1, f4] = o := ⟨_, rfl⟩
      cases o with
      | none =>
        have hp := putNone (l := [5, f1, f4]) hC9 hc9 hw9 (by simp) ho
        have HP := Lib.hid hp
        have HO := Lib.hid ho
        clear hp ho hw9 hC9 R4 B4 hB9
        refine HP.out.mono ?_
        rintro e w5 ⟨v5, rfl, B5⟩
        go_wp2_with fail
        go_ret2
        have et := HE.out
        simp [numsOf, withR, HO.out] at et
        subst et
        exact ⟨_, rfl, Kd.R_nil _ _ _ _ _, HB9.out.trans (B5.mono HB9.out.size)⟩
      | some o =>
        have hol : o.length ≤ 0 + 8 * ([5, f1, f4] : List Int).length := vput_len ho
        simp only [List.length_cons, List.length_nil] at hol
        have hp := putSome (l := [5, f1, f4]) hC9 hc9 hw9 (by simp) ho
        have HP := Lib.hid hp
        have HO := Lib.hid ho
        clear hp ho hw9 hC9 R4 B4 hB9
        refine HP.out.mono ?_
        rintro e w5 ⟨v5, rfl, R5, B5⟩
        have k6 := blk_cell (blk_below HK9.out B5) 6
        go_wp2_with (first
          | ((with_reducible refine gate_builtin (b := .append) (xs := #[.tmp 201, .tmp 203]) rfl ?_); refine appB (w0 := _) _ rfl (.tmp 201) (.tmp 203) rfl (A := A6) (ys := data) R5 rfl rfl rfl (Kd.C_below HC69.out B5) B5 B5.size (by omega) ?_; intro v6 w6 R6 B6 G6 N6; clear G6 N6 k6))
        go_ret2
        have et := HE.out
        simp [numsOf, withR, HO.out] at et
        subst et
        exact ⟨_, rfl, Kd.R_lower R6 HB9.out.size, HB9.out.trans (B6.mono HB9.out.size)⟩

set_option maxHeartbeats 8000000 in
set_option maxRecDepth 100000 in
theorem ref_16 {w : World} (f1 f2 f3 f4 : Int) (f5 : Bool) {A6 A7 : Option Addr} {c6 c7 : Nat} {data : List Int} {acks : List S84} (b1 : Encode.bd f1) (b2 : Encode.bd f2) (b3 : Encode.bd f3) (b4 : Encode.bd f4) (hC6 : CB w A6 data) (hc6 : data.length ≤ c6) (hd : data.length ≤ 3000) (hC7 : Kd.C k84 w A7 acks.length acks) (hc7 : acks.length ≤ c7) (hba : bds acks) (hla : acks.length ≤ 1000) :
    Calls Try.prog 39 #[.agg #[.int .u64 16, .int .u64 f1, .int .u64 f2, .int .u64 f3, .int .u64 f4, .bool f5, .slice A6 data.length c6, .slice A7 acks.length c7]] w fun e w' => ∃ v, e = .returned (.tuple #[v, .int .i64 (encF okS ackOf ⟨16, f1, f2, f3, f4, f5, data, acks⟩).2]) ∧ RB w' w.heap.size v (encF okS ackOf ⟨16, f1, f2, f3, f4, f5, data, acks⟩).1 ∧ Below w.heap.size w w' := by
  obtain ⟨t, ht⟩ : ∃ t, encF okS ackOf ⟨16, f1, f2, f3, f4, f5, data, acks⟩ = t := ⟨_, rfl⟩
  rw [ht]
  have HT := Lib.hid ht
  have hk := heap_alloc_new w (.cells #[.int .u64 16, .int .u64 f1, .int .u64 f2, .int .u64 f3, .int .u64 f4, .bool f5, .slice A6 data.length c6, .slice A7 acks.length c7] 58)
  have BL := (Below.refl w.heap.size w).alloc (Nat.le_refl _) (.cells #[.int .u64 16, .int .u64 f1, .int .u64 f2, .int .u64 f3, .int .u64 f4, .bool f5, .slice A6 data.length c6, .slice A7 acks.length c7] 58)
  obtain ⟨w1, hw1⟩ : ∃ w1 : World, w1 = w.alloc (.cells #[.int .u64 16, .int .u64 f1, .int .u64 f2, .int .u64 f3, .int .u64 f4, .bool f5, .slice A6 data.length c6, .slice A7 acks.length c7] 58) := ⟨_, rfl⟩
  rw [← hw1] at hk BL
  have HW1 := Lib.hid hw1
  have HK := Lib.hid hk
  have HBL := Lib.hid BL
  obtain ⟨k0, k1, k2, k3, k4, k5, k6, k7⟩ := cells8 hk
  have HC6 := Lib.hid (Kd.C_below hC6 BL)
  have HC7 := Lib.hid (Kd.C_below hC7 BL)
  have HBA := Lib.hid hba
  have HB1 := Lib.hid b1
  have HB2 := Lib.hid b2
  have HB3 := Lib.hid b3
  have HB4 := Lib.hid b4
  have hlw : IntKind.u64.wrap (data.length : Int) = data.length := by rw [IntKind.wrap_u64]; omega
  clear hw1 hk BL hC6 hC7 ht hba b1 b2 b3 b4
  go_enter Try.func39, Try.ntmps39
  go_upto_region 1 with fail
  rw [← HW1.out]
  clear HW1
  by_cases hlong : (data.length : Int) > 2048
  · go_wp2_with fail
    go_ret2
    have et := HT.out
    unfold encF at et
    rw [if_pos hlong] at et
    subst et
    exact ⟨_, rfl, Kd.R_nil _ _ _ _ _, HBL.out⟩
  · by_cases hn : (data.length : Int) > 0
    · have et := HT.out
      unfold encF at et
      rw [if_neg hlong, if_pos ⟨hn, by simp, by simp, by simp⟩] at et
      subst et
      go_wp2_with fail
      go_ret2
      exact ⟨_, rfl, Kd.R_nil _ _ _ _ _, HBL.out⟩
    · have et := HT.out
      unfold encF at et
      rw [if_neg hlong, if_neg (fun h => hn h.1)] at et
      have HE := Lib.hid et
      clear et
      go_wp2_with fail
      have hkn := known_calls 16 w1
      rw [show knownB 16 = true from rfl] at hkn
      refine hkn.mono ?_
      clear hkn
      rintro e w2 ⟨rfl, Bx⟩
      have HBx := Lib.hid Bx
      obtain ⟨k0, k1, k2, k3, k4, k5, k6, k7⟩ := cells8 (blk_below HK.out Bx)
      clear Bx
      go_wp2_with (first
        | ((with_reducible refine gate_dst (N := 39) rfl ?_); refine litUL (w0 := w2) w2.heap.size rfl (N := 39) rfl [16] ?hr (Below.refl _ _) (Nat.le_refl _) (by simp) ?_; (case hr => first | (go_simp; done) | (go_simp; rfl)); intro v3 w3 R3 B3; clear k0 k1 k2 k3 k4 k5 k6 k7; obtain ⟨k0, k1, k2, k3, k4, k5, k6, k7⟩ := cells8 (blk_below HK.out (HBx.out.trans (B3.mono HBx.out.size))))
        | ((with_reducible refine gate_builtin (b := .append) (xs := #[.tmp 172, .tmp 175]) rfl ?_); refine appUL (w0 := w2) w2.heap.size rfl (.tmp 172) (.tmp 175) rfl (Kd.R_below R3 (below_alloc (Below.refl _ _) _)) rfl rfl rfl (C_lit .u64 w3 22 [f3] (by simp)) (B3.alloc B3.size _) (Nat.le_trans B3.size (by simp)) (by simp) ?_; intro v4 w4 R4 B4; clear R3 B3; clear k0 k1 k2 k3 k4 k5 k6 k7; obtain ⟨k0, k1, k2, k3, k4, k5, k6, k7⟩ := cells8 (blk_below HK.out (HBx.out.trans (B4.mono HBx.out.size)))))
      obtain ⟨A9, c9, e9, hc9, hC9, -⟩ := RU.read R4
      subst e9
      have hB9 := HBL.out.trans ((HBx.out.trans (B4.mono HBx.out.size)).mono HBL.out.size)
      have HB9 := Lib.hid hB9
      have HK9 := Lib.hid (blk_below HK.out (HBx.out.trans (B4.mono HBx.out.size)))
      have HC69 := Lib.hid (Kd.C_below HC6.out (HBx.out.trans (B4.mono HBx.out.size)))
      have hw9 : ∀ n ∈ ([16, f3] : List Int), 0 ≤ n ∧ n < 18446744073709551616 := by
        intro n hn
        simp only [List.mem_cons, List.not_mem_nil, or_false] at hn
        have q1 := HB1.out; have q2 := HB2.out; have q3 := HB3.out; have q4 := HB4.out
        unfold Encode.bd at *
        omega
      obtain ⟨o, ho⟩ : ∃ o, vput [] [16, f3] = o := ⟨_, rfl⟩
      cases o with
      | none =>
        have hp := putNone (l := [16, f3]) hC9 hc9 hw9 (by simp) ho
        have HP := Lib.hid hp
        have HO := Lib.hid ho
        clear hp ho hw9 hC9 R4 B4 hB9
        refine HP.out.mono ?_
        rintro e w5 ⟨v5, rfl, B5⟩
        go_wp2_with fail
        go_ret2
        have et := HE.out
        simp [numsOf, withR, HO.out] at et
        subst et
        exact ⟨_, rfl, Kd.R_nil _ _ _ _ _, HB9.out.trans (B5.mono HB9.out.size)⟩
      | some o =>
        have hol : o.length ≤ 0 + 8 * ([16, f3] : List Int).length := vput_len ho
        simp only [List.length_cons, List.length_nil] at hol
        have hp := putSome (l := [16, f3]) hC9 hc9 hw9 (by simp) ho
        have HP := Lib.hid hp
        have HO := Lib.hid ho
        clear hp ho hw9 hC9 R4 B4 hB9
        refine HP.out.mono ?_
        rintro e w5 ⟨v5, rfl, R5, B5⟩
        have k6 := blk_cell (blk_below HK9.out B5) 6
        go_wp2_with (first
          | ((with_reducible refine gate_builtin (b := .append) (xs := #[.tmp 201, .tmp 203]) rfl ?_); refine appB (w0 := _) _ rfl (.tmp 201) (.tmp 203) rfl (A := A6) (ys := data) R5 rfl rfl rfl (Kd.C_below HC69.out B5) B5 B5.size (by omega) ?_; intro v6 w6 R6 B6 G6 N6; clear G6 N6 k6))
        go_ret2
        have et := HE.out
        simp [numsOf, withR, HO.out] at et
        subst et
        exact ⟨_, rfl, Kd.R_lower R6 HB9.out.size, HB9.out.trans (B6.mono HB9.out.size)⟩

set_option maxHeartbeats 8000000 in
set_option maxRecDepth 100000 in
theorem ref_18 {w : World} (f1 f2 f3 f4 : Int) (f5 : Bool) {A6 A7 : Option Addr} {c6 c7 : Nat} {data : List Int} {acks : List S84} (b1 : Encode.bd f1) (b2 : Encode.bd f2) (b3 : Encode.bd f3) (b4 : Encode.bd f4) (hC6 : CB w A6 data) (hc6 : data.length ≤ c6) (hd : data.length ≤ 3000) (hC7 : Kd.C k84 w A7 acks.length acks) (hc7 : acks.length ≤ c7) (hba : bds acks) (hla : acks.length ≤ 1000) :
    Calls Try.prog 39 #[.agg #[.int .u64 18, .int .u64 f1, .int .u64 f2, .int .u64 f3, .int .u64 f4, .bool f5, .slice A6 data.length c6, .slice A7 acks.length c7]] w fun e w' => ∃ v, e = .returned (.tuple #[v, .int .i64 (encF okS ackOf ⟨18, f1, f2, f3, f4, f5, data, acks⟩).2]) ∧ RB w' w.heap.size v (encF okS ackOf ⟨18, f1, f2, f3, f4, f5, data, acks⟩).1 ∧ Below w.heap.size w w' := by
  obtain ⟨t, ht⟩ : ∃ t, encF okS ackOf ⟨18, f1, f2, f3, f4, f5, data, acks⟩ = t := ⟨_, rfl⟩
  rw [ht]
  have HT := Lib.hid ht
  have hk := heap_alloc_new w (.cells #[.int .u64 18, .int .u64 f1, .int .u64 f2, .int .u64 f3, .int .u64 f4, .bool f5, .slice A6 data.length c6, .slice A7 acks.length c7] 58)
  have BL := (Below.refl w.heap.size w).alloc (Nat.le_refl _) (.cells #[.int .u64 18, .int .u64 f1, .int .u64 f2, .int .u64 f3, .int .u64 f4, .bool f5, .slice A6 data.length c6, .slice A7 acks.length c7] 58)
  obtain ⟨w1, hw1⟩ : ∃ w1 : World, w1 = w.alloc (.cells #[.int .u64 18, .int .u64 f1, .int .u64 f2, .int .u64 f3, .int .u64 f4, .bool f5, .slice A6 data.length c6, .slice A7 acks.length c7] 58) := ⟨_, rfl⟩
  rw [← hw1] at hk BL
  have HW1 := Lib.hid hw1
  have HK := Lib.hid hk
  have HBL := Lib.hid BL
  obtain ⟨k0, k1, k2, k3, k4, k5, k6, k7⟩ := cells8 hk
  have HC6 := Lib.hid (Kd.C_below hC6 BL)
  have HC7 := Lib.hid (Kd.C_below hC7 BL)
  have HBA := Lib.hid hba
  have HB1 := Lib.hid b1
  have HB2 := Lib.hid b2
  have HB3 := Lib.hid b3
  have HB4 := Lib.hid b4
  have hlw : IntKind.u64.wrap (data.length : Int) = data.length := by rw [IntKind.wrap_u64]; omega
  clear hw1 hk BL hC6 hC7 ht hba b1 b2 b3 b4
  go_enter Try.func39, Try.ntmps39
  go_upto_region 1 with fail
  rw [← HW1.out]
  clear HW1
  by_cases hlong : (data.length : Int) > 2048
  · go_wp2_with fail
    go_ret2
    have et := HT.out
    unfold encF at et
    rw [if_pos hlong] at et
    subst et
    exact ⟨_, rfl, Kd.R_nil _ _ _ _ _, HBL.out⟩
  · by_cases hn : (data.length : Int) > 0
    · have et := HT.out
      unfold encF at et
      rw [if_neg hlong, if_pos ⟨hn, by simp, by simp, by simp⟩] at et
      subst et
      go_wp2_with fail
      go_ret2
      exact ⟨_, rfl, Kd.R_nil _ _ _ _ _, HBL.out⟩
    · have et := HT.out
      unfold encF at et
      rw [if_neg hlong, if_neg (fun h => hn h.1)] at et
      have HE := Lib.hid et
      clear et
      go_wp2_with fail
      have hkn := known_calls 18 w1
      rw [show knownB 18 = true from rfl] at hkn
      refine hkn.mono ?_
      clear hkn
      rintro e w2 ⟨rfl, Bx⟩
      have HBx := Lib.hid Bx
      obtain ⟨k0, k1, k2, k3, k4, k5, k6, k7⟩ := cells8 (blk_below HK.out Bx)
      clear Bx
      go_wp2_with (first
        | ((with_reducible refine gate_dst (N := 39) rfl ?_); refine litUL (w0 := w2) w2.heap.size rfl (N := 39) rfl [18] ?hr (Below.refl _ _) (Nat.le_refl _) (by simp) ?_; (case hr => first | (go_simp; done) | (go_simp; rfl)); intro v3 w3 R3 B3; clear k0 k1 k2 k3 k4 k5 k6 k7; obtain ⟨k0, k1, k2, k3, k4, k5, k6, k7⟩ := cells8 (blk_below HK.out (HBx.out.trans (B3.mono HBx.out.size))))
        | ((with_reducible refine gate_builtin (b := .append) (xs := #[.tmp 172, .tmp 175]) rfl ?_); refine appUL (w0 := w2) w2.heap.size rfl (.tmp 172) (.tmp 175) rfl (Kd.R_below R3 (below_alloc (Below.refl _ _) _)) rfl rfl rfl (C_lit .u64 w3 22 [f3] (by simp)) (B3.alloc B3.size _) (Nat.le_trans B3.size (by simp)) (by simp) ?_; intro v4 w4 R4 B4; clear R3 B3; clear k0 k1 k2 k3 k4 k5 k6 k7; obtain ⟨k0, k1, k2, k3, k4, k5, k6, k7⟩ := cells8 (blk_below HK.out (HBx.out.trans (B4.mono HBx.out.size)))))
      obtain ⟨A9, c9, e9, hc9, hC9, -⟩ := RU.read R4
      subst e9
      have hB9 := HBL.out.trans ((HBx.out.trans (B4.mono HBx.out.size)).mono HBL.out.size)
      have HB9 := Lib.hid hB9
      have HK9 := Lib.hid (blk_below HK.out (HBx.out.trans (B4.mono HBx.out.size)))
      have HC69 := Lib.hid (Kd.C_below HC6.out (HBx.out.trans (B4.mono HBx.out.size)))
      have hw9 : ∀ n ∈ ([18, f3] : List Int), 0 ≤ n ∧ n < 18446744073709551616 := by
        intro n hn
        simp only [List.mem_cons, List.not_mem_nil, or_false] at hn
        have q1 := HB1.out; have q2 := HB2.out; have q3 := HB3.out; have q4 := HB4.out
        unfold Encode.bd at *
        omega
      obtain ⟨o, ho⟩ : ∃ o, vput [] [18, f3] = o := ⟨_, rfl⟩
      cases o with
      | none =>
        have hp := putNone (l := [18, f3]) hC9 hc9 hw9 (by simp) ho
        have HP := Lib.hid hp
        have HO := Lib.hid ho
        clear hp ho hw9 hC9 R4 B4 hB9
        refine HP.out.mono ?_
        rintro e w5 ⟨v5, rfl, B5⟩
        go_wp2_with fail
        go_ret2
        have et := HE.out
        simp [numsOf, withR, HO.out] at et
        subst et
        exact ⟨_, rfl, Kd.R_nil _ _ _ _ _, HB9.out.trans (B5.mono HB9.out.size)⟩
      | some o =>
        have hol : o.length ≤ 0 + 8 * ([18, f3] : List Int).length := vput_len ho
        simp only [List.length_cons, List.length_nil] at hol
        have hp := putSome (l := [18, f3]) hC9 hc9 hw9 (by simp) ho
        have HP := Lib.hid hp
        have HO := Lib.hid ho
        clear hp ho hw9 hC9 R4 B4 hB9
        refine HP.out.mono ?_
        rintro e w5 ⟨v5, rfl, R5, B5⟩
        have k6 := blk_cell (blk_below HK9.out B5) 6
        go_wp2_with (first
          | ((with_reducible refine gate_builtin (b := .append) (xs := #[.tmp 201, .tmp 203]) rfl ?_); refine appB (w0 := _) _ rfl (.tmp 201) (.tmp 203) rfl (A := A6) (ys := data) R5 rfl rfl rfl (Kd.C_below HC69.out B5) B5 B5.size (by omega) ?_; intro v6 w6 R6 B6 G6 N6; clear G6 N6 k6))
        go_ret2
        have et := HE.out
        simp [numsOf, withR, HO.out] at et
        subst et
        exact ⟨_, rfl, Kd.R_lower R6 HB9.out.size, HB9.out.trans (B6.mono HB9.out.size)⟩

set_option maxHeartbeats 8000000 in
set_option maxRecDepth 100000 in
theorem ref_17 {w : World} (f1 f2 f3 f4 : Int) (f5 : Bool) {A6 A7 : Option Addr} {c6 c7 : Nat} {data : List Int} {acks : List S84} (b1 : Encode.bd f1) (b2 : Encode.bd f2) (b3 : Encode.bd f3) (b4 : Encode.bd f4) (hC6 : CB w A6 data) (hc6 : data.length ≤ c6) (hd : data.length ≤ 3000) (hC7 : Kd.C k84 w A7 acks.length acks) (hc7 : acks.length ≤ c7) (hba : bds acks) (hla : acks.length ≤ 1000) :
    Calls Try.prog 39 #[.agg #[.int .u64 17, .int .u64 f1, .int .u64 f2, .int .u64 f3, .int .u64 f4, .bool f5, .slice A6 data.length c6, .slice A7 acks.length c7]] w fun e w' => ∃ v, e = .returned (.tuple #[v, .int .i64 (encF okS ackOf ⟨17, f1, f2, f3, f4, f5, data, acks⟩).2]) ∧ RB w' w.heap.size v (encF okS ackOf ⟨17, f1, f2, f3, f4, f5, data, acks⟩).1 ∧ Below w.heap.size w w' := by
  obtain ⟨t, ht⟩ : ∃ t, encF okS ackOf ⟨17, f1, f2, f3, f4, f5, data, acks⟩ = t := ⟨_, rfl⟩
  rw [ht]
  have HT := Lib.hid ht
  have hk := heap_alloc_new w (.cells #[.int .u64 17, .int .u64 f1, .int .u64 f2, .int .u64 f3, .int .u64 f4, .bool f5, .slice A6 data.length c6, .slice A7 acks.length c7] 58)
  have BL := (Below.refl w.heap.size w).alloc (Nat.le_refl _) (.cells #[.int .u64 17, .int .u64 f1, .int .u64 f2, .int .u64 f3, .int .u64 f4, .bool f5, .slice A6 data.length c6, .slice A7 acks.length c7] 58)
  obtain ⟨w1, hw1⟩ : ∃ w1 : World, w1 = w.alloc (.cells #[.int .u64 17, .int .u64 f1, .int .u64 f2, .int .u64 f3, .int .u64 f4, .bool f5, .slice A6 data.length c6, .slice A7 acks.length c7] 58) := ⟨_, rfl⟩
  rw [← hw1] at hk BL
  have HW1 := Lib.hid hw1
  have HK := Lib.hid hk
  have HBL := Lib.hid BL
  obtain ⟨k0, k1, k2, k3, k4, k5, k6, k7⟩ := cells8 hk
  have HC6 := Lib.hid (Kd.C_below hC6 BL)
  have HC7 := Lib.hid (Kd.C_below hC7 BL)
  have HBA := Lib.hid hba
  have HB1 := Lib.hid b1
  have HB2 := Lib.hid b2
  have HB3 := Lib.hid b3
  have HB4 := Lib.hid b4
  have hlw : IntKind.u64.wrap (data.length : Int) = data.length := by rw [IntKind.wrap_u64]; omega
  clear hw1 hk BL hC6 hC7 ht hba b1 b2 b3 b4
  go_enter Try.func39, Try.ntmps39
  go_upto_region 1 with fail
  rw [← HW1.out]
  clear HW1
  by_cases hlong : (data.length : Int) > 2048
  · go_wp2_with fail
    go_ret2
    have et := HT.out
    unfold encF at et
    rw [if_pos hlong] at et
    subst et
    exact ⟨_, rfl, Kd.R_nil _ _ _ _ _, HBL.out⟩
  · by_cases hn : (data.length : Int) > 0
    · have et := HT.out
      unfold encF at et
      rw [if_neg hlong, if_pos ⟨hn, by simp, by simp, by simp⟩] at et
      subst et
      go_wp2_with fail
      go_ret2
      exact ⟨_, rfl, Kd.R_nil _ _ _ _ _, HBL.out⟩
    · have et := HT.out
      unfold encF at et
      rw [if_neg hlong, if_neg (fun h => hn h.1)] at et
      have HE := Lib.hid et
      clear et
      go_wp2_with fail
      have hkn := known_calls 17 w1
      rw [show knownB 17 = true from rfl] at hkn
      refine hkn.mono ?_
      clear hkn
      rintro e w2 ⟨rfl, Bx⟩
      have HBx := Lib.hid Bx
      obtain ⟨k0, k1, k2, k3, k4, k5, k6, k7⟩ := cells8 (blk_below HK.out Bx)
      clear Bx
      go_wp2_with (first
        | ((with_reducible refine gate_dst (N := 39) rfl ?_); refine litUL (w0 := w2) w2.heap.size rfl (N := 39) rfl [17] ?hr (Below.refl _ _) (Nat.le_refl _) (by simp) ?_; (case hr => first | (go_simp; done) | (go_simp; rfl)); intro v3 w3 R3 B3; clear k0 k1 k2 k3 k4 k5 k6 k7; obtain ⟨k0, k1, k2, k3, k4, k5, k6, k7⟩ := cells8 (blk_below HK.out (HBx.out.trans (B3.mono HBx.out.size))))
        | ((with_reducible refine gate_builtin (b := .append) (xs := #[.tmp 179, .tmp 184]) rfl ?_); refine appUL (w0 := w2) w2.heap.size rfl (.tmp 179) (.tmp 184) rfl (Kd.R_below R3 (below_alloc (Below.refl _ _) _)) rfl rfl rfl (C_lit .u64 w3 22 [f1, f3] (by simp)) (B3.alloc B3.size _) (Nat.le_trans B3.size (by simp)) (by simp) ?_; intro v4 w4 R4 B4; clear R3 B3; clear k0 k1 k2 k3 k4 k5 k6 k7; obtain ⟨k0, k1, k2, k3, k4, k5, k6, k7⟩ := cells8 (blk_below HK.out (HBx.out.trans (B4.mono HBx.out.size)))))
      obtain ⟨A9, c9, e9, hc9, hC9, -⟩ := RU.read R4
      subst e9
      have hB9 := HBL.out.trans ((HBx.out.trans (B4.mono HBx.out.size)).mono HBL.out.size)
      have HB9 := Lib.hid hB9
      have HK9 := Lib.hid (blk_below HK.out (HBx.out.trans (B4.mono HBx.out.size)))
      have HC69 := Lib.hid (Kd.C_below HC6.out (HBx.out.trans (B4.mono HBx.out.size)))
      have hw9 : ∀ n ∈ ([17, f1, f3] : List Int), 0 ≤ n ∧ n < 18446744073709551616 := by
        intro n hn
        simp only [List.mem_cons, List.not_mem_nil, or_false] at hn
        have q1 := HB1.out; have q2 := HB2.out; have q3 := HB3.out; have q4 := HB4.out
        unfold Encode.bd at *
        omega
      obtain ⟨o, ho⟩ : ∃ o, vput [] [17, f1, f3] = o := ⟨_, rfl⟩
      cases o with
      | none =>
        have hp := putNone (l := [17, f1, f3]) hC9 hc9 hw9 (by simp) ho
        have HP := Lib.hid hp
        have HO := Lib.hid ho
        clear hp ho hw9 hC9 R4 B4 hB9
        refine HP.out.mono ?_
        rintro e w5 ⟨v5, rfl, B5⟩
        go_wp2_with fail
        go_ret2
        have et := HE.out
        simp [numsOf, withR, HO.out] at et
        subst et
        exact ⟨_, rfl, Kd.R_nil _ _ _ _ _, HB9.out.trans (B5.mono HB9.out.size)⟩
      | some o =>
        have hol : o.length ≤ 0 + 8 * ([17, f1, f3] : List Int).length := vput_len ho
        simp only [List.length_cons, List.length_nil] at hol
        have hp := putSome (l := [17, f1, f3]) hC9 hc9 hw9 (by simp) ho
        have HP := Lib.hid hp
        have HO := Lib.hid ho
        clear hp ho hw9 hC9 R4 B4 hB9
        refine HP.out.mono ?_
        rintro e w5 ⟨v5, rfl, R5, B5⟩
        have k6 := blk_cell (blk_below HK9.out B5) 6
        go_wp2_with (first
          | ((with_reducible refine gate_builtin (b := .append) (xs := #[.tmp 201, .tmp 203]) rfl ?_); refine appB (w0 := _) _ rfl (.tmp 201) (.tmp 203) rfl (A := A6) (ys := data) R5 rfl rfl rfl (Kd.C_below HC69.out B5) B5 B5.size (by omega) ?_; intro v6 w6 R6 B6 G6 N6; clear G6 N6 k6))
        go_ret2
        have et := HE.out
        simp [numsOf, withR, HO.out] at et
        subst et
        exact ⟨_, rfl, Kd.R_lower R6 HB9.out.size, HB9.out.trans (B6.mono HB9.out.size)⟩

set_option maxHeartbeats 8000000 in
set_option maxRecDepth 100000 in
theorem ref_28 {w : World} (f1 f2 f3 f4 : Int) (f5 : Bool) {A6 A7 : Option Addr} {c6 c7 : Nat} {data : List Int} {acks : List S84} (b1 : Encode.bd f1) (b2 : Encode.bd f2) (b3 : Encode.bd f3) (b4 : Encode.bd f4) (hC6 : CB w A6 data) (hc6 : data.length ≤ c6) (hd : data.length ≤ 3000) (hC7 : Kd.C k84 w A7 acks.length acks) (hc7 : acks.length ≤ c7) (hba : bds acks) (hla : acks.length ≤ 1000) :
    Calls Try.prog 39 #[.agg #[.int .u64 28, .int .u64 f1, .int .u64 f2, .int .u64 f3, .int .u64 f4, .bool f5, .slice A6 data.length c6, .slice A7 acks.length c7]] w fun e w' => ∃ v, e = .returned (.tuple #[v, .int .i64 (encF okS ackOf ⟨28, f1, f2, f3, f4, f5, data, acks⟩).2]) ∧ RB w' w.heap.size v (encF okS ackOf ⟨28, f1, f2, f3, f4, f5, data, acks⟩).1 ∧ Below w.heap.size w w' := by
  obtain ⟨t, ht⟩ : ∃ t, encF okS ackOf ⟨28, f1, f2, f3, f4, f5, data, acks⟩ = t := ⟨_, rfl⟩
  rw [ht]
  have HT := Lib.hid ht
  have hk := heap_alloc_new w (.cells #[.int .u64 28, .int .u64 f1, .int .u64 f2, .int .u64 f3, .int .u64 f4, .bool f5, .slice A6 data.length c6, .slice A7 acks.length c7] 58)
  have BL := (Below.refl w.heap.size w).alloc (Nat.le_refl _) (.cells #[.int .u64 28, .int .u64 f1, .int .u64 f2, .int .u64 f3, .int .u64 f4, .bool f5, .slice A6 data.length c6, .slice A7 acks.length c7] 58)
  obtain ⟨w1, hw1⟩ : ∃ w1 : World, w1 = w.alloc (.cells #[.int .u64 28, .int .u64 f1, .int .u64 f2, .int .u64 f3, .int .u64 f4, .bool f5, .slice A6 data.length c6, .slice A7 acks.length c7] 58) := ⟨_, rfl⟩
  rw [← hw1] at hk BL
  have HW1 := Lib.hid hw1
  have HK := Lib.hid hk
  have HBL := Lib.hid BL
  obtain ⟨k0, k1, k2, k3, k4, k5, k6, k7⟩ := cells8 hk
  have HC6 := Lib.hid (Kd.C_below hC6 BL)
  have HC7 := Lib.hid (Kd.C_below hC7 BL)
  have HBA := Lib.hid hba
  have HB1 := Lib.hid b1
  have HB2 := Lib.hid b2
  have HB3 := Lib.hid b3
  have HB4 := Lib.hid b4
  have hlw : IntKind.u64.wrap (data.length : Int) = data.length := by rw [IntKind.wrap_u64]; omega
  clear hw1 hk BL hC6 hC7 ht hba b1 b2 b3 b4
  go_enter Try.func39, Try.ntmps39
  go_upto_region 1 with fail
  rw [← HW1.out]
  clear HW1
  by_cases hlong : (data.length : Int) > 2048
  · go_wp2_with fail
    go_ret2
    have et := HT.out
    unfold encF at et
    rw [if_pos hlong] at et
    subst et
    exact ⟨_, rfl, Kd.R_nil _ _ _ _ _, HBL.out⟩
  · have et := HT.out
    unfold encF at et
    rw [if_neg hlong, if_neg (by simp)] at et
    have HE := Lib.hid et
    clear et
    by_cases hn : (data.length : Int) > 0
    · go_wp2_with fail
      have hkn := known_calls 28 w1
      rw [show knownB 28 = true from rfl] at hkn
      refine hkn.mono ?_
      clear hkn
      rintro e w2 ⟨rfl, Bx⟩
      have HBx := Lib.hid Bx
      obtain ⟨k0, k1, k2, k3, k4, k5, k6, k7⟩ := cells8 (blk_below HK.out Bx)
      clear Bx
      go_wp2_with (first
        | ((with_reducible refine gate_dst (N := 39) rfl ?_); refine litUL (w0 := w2) w2.heap.size rfl (N := 39) rfl [28] ?hr (Below.refl _ _) (Nat.le_refl _) (by simp) ?_; (case hr => first | (go_simp; done) | (go_simp; rfl)); intro v3 w3 R3 B3; clear k0 k1 k2 k3 k4 k5 k6 k7; obtain ⟨k0, k1, k2, k3, k4, k5, k6, k7⟩ := cells8 (blk_below HK.out (HBx.out.trans (B3.mono HBx.out.size))))
        | ((with_reducible refine gate_builtin (b := .append) (xs := #[.tmp 188, .tmp 192]) rfl ?_); refine appUL (w0 := w2) w2.heap.size rfl (.tmp 188) (.tmp 192) rfl (Kd.R_below R3 (below_alloc (Below.refl _ _) _)) rfl rfl rfl (C_lit .u64 w3 22 [f4, (data.length : Int)] (by simp)) (B3.alloc B3.size _) (Nat.le_trans B3.size (by simp)) (by simp) ?_; intro v4 w4 R4 B4; clear R3 B3; clear k0 k1 k2 k3 k4 k5 k6 k7; obtain ⟨k0, k1, k2, k3, k4, k5, k6, k7⟩ := cells8 (blk_below HK.out (HBx.out.trans (B4.mono HBx.out.size)))))
      obtain ⟨A9, c9, e9, hc9, hC9, -⟩ := RU.read R4
      subst e9
      have hB9 := HBL.out.trans ((HBx.out.trans (B4.mono HBx.out.size)).mono HBL.out.size)
      have HB9 := Lib.hid hB9
      have HK9 := Lib.hid (blk_below HK.out (HBx.out.trans (B4.mono HBx.out.size)))
      have HC69 := Lib.hid (Kd.C_below HC6.out (HBx.out.trans (B4.mono HBx.out.size)))
      have hw9 : ∀ n ∈ ([28, f4, (data.length : Int)] : List Int), 0 ≤ n ∧ n < 18446744073709551616 := by
        intro n hn
        simp only [List.mem_cons, List.not_mem_nil, or_false] at hn
        have q1 := HB1.out; have q2 := HB2.out; have q3 := HB3.out; have q4 := HB4.out
        unfold Encode.bd at *
        omega
      obtain ⟨o, ho⟩ : ∃ o, vput [] [28, f4, (data.length : Int)] = o := ⟨_, rfl⟩
      cases o with
      | none =>
        have hp := putNone (l := [28, f4, (data.length : Int)]) hC9 hc9 hw9 (by simp) ho
        have HP := Lib.hid hp
        have HO := Lib.hid ho
        clear hp ho hw9 hC9 R4 B4 hB9
        refine HP.out.mono ?_
        rintro e w5 ⟨v5, rfl, B5⟩
        go_wp2_with fail
        go_ret2
        have et := HE.out
        simp [numsOf, withR, HO.out] at et
        subst et
        exact ⟨_, rfl, Kd.R_nil _ _ _ _ _, HB9.out.trans (B5.mono HB9.out.size)⟩
      | some o =>
        have hol : o.length ≤ 0 + 8 * ([28, f4, (data.length : Int)] : List Int).length := vput_len ho
        simp only [List.length_cons, List.length_nil] at hol
        have hp := putSome (l := [28, f4, (data.length : Int)]) hC9 hc9 hw9 (by simp) ho
        have HP := Lib.hid hp
        have HO := Lib.hid ho
        clear hp ho hw9 hC9 R4 B4 hB9
        refine HP.out.mono ?_
        rintro e w5 ⟨v5, rfl, R5, B5⟩
        have k6 := blk_cell (blk_below HK9.out B5) 6
        go_wp2_with (first
          | ((with_reducible refine gate_builtin (b := .append) (xs := #[.tmp 201, .tmp 203]) rfl ?_); refine appB (w0 := _) _ rfl (.tmp 201) (.tmp 203) rfl (A := A6) (ys := data) R5 rfl rfl rfl (Kd.C_below HC69.out B5) B5 B5.size (by omega) ?_; intro v6 w6 R6 B6 G6 N6; clear G6 N6 k6))
        go_ret2
        have et := HE.out
        simp [numsOf, withR, HO.out] at et
        subst et
        exact ⟨_, rfl, Kd.R_lower R6 HB9.out.size, HB9.out.trans (B6.mono HB9.out.size)⟩
    · go_wp2_with fail
      have hkn := known_calls 28 w1
      rw [show knownB 28 = true from rfl] at hkn
      refine hkn.mono ?_
      clear hkn
      rintro e w2 ⟨rfl, Bx⟩
      have HBx := Lib.hid Bx
      obtain ⟨k0, k1, k2, k3, k4, k5, k6, k7⟩ := cells8 (blk_below HK.out Bx)
      clear Bx
      go_wp2_with (first
        | ((with_reducible refine gate_dst (N := 39) rfl ?_); refine litUL (w0 := w2) w2.heap.size rfl (N := 39) rfl [28] ?hr (Below.refl _ _) (Nat.le_refl _) (by simp) ?_; (case hr => first | (go_simp; done) | (go_simp; rfl)); intro v3 w3 R3 B3; clear k0 k1 k2 k3 k4 k5 k6 k7; obtain ⟨k0, k1, k2, k3, k4, k5, k6, k7⟩ := cells8 (blk_below HK.out (HBx.out.trans (B3.mono HBx.out.size))))
        | ((with_reducible refine gate_builtin (b := .append) (xs := #[.tmp 188, .tmp 192]) rfl ?_); refine appUL (w0 := w2) w2.heap.size rfl (.tmp 188) (.tmp 192) rfl (Kd.R_below R3 (below_alloc (Below.refl _ _) _)) rfl rfl rfl (C_lit .u64 w3 22 [f4, (data.length : Int)] (by simp)) (B3.alloc B3.size _) (Nat.le_trans B3.size (by simp)) (by simp) ?_; intro v4 w4 R4 B4; clear R3 B3; clear k0 k1 k2 k3 k4 k5 k6 k7; obtain ⟨k0, k1, k2, k3, k4, k5, k6, k7⟩ := cells8 (blk_below HK.out (HBx.out.trans (B4.mono HBx.out.size)))))
      obtain ⟨A9, c9, e9, hc9, hC9, -⟩ := RU.read R4
      subst e9
      have hB9 := HBL.out.trans ((HBx.out.trans (B4.mono HBx.out.size)).mono HBL.out.size)
      have HB9 := Lib.hid hB9
      have HK9 := Lib.hid (blk_below HK.out (HBx.out.trans (B4.mono HBx.out.size)))
      have HC69 := Lib.hid (Kd.C_below HC6.out (HBx.out.trans (B4.mono HBx.out.size)))
      have hw9 : ∀ n ∈ ([28, f4, (data.length : Int)] : List Int), 0 ≤ n ∧ n < 18446744073709551616 := by
        intro n hn
        simp only [List.mem_cons, List.not_mem_nil, or_false] at hn
        have q1 := HB1.out; have q2 := HB2.out; have q3 := HB3.out; have q4 := HB4.out
        unfold Encode.bd at *
        omega
      obtain ⟨o, ho⟩ : ∃ o, vput [] [28, f4, (data.length : Int)] = o := ⟨_, rfl⟩
      cases o with
      | none =>
        have hp := putNone (l := [28, f4, (data.length : Int)]) hC9 hc9 hw9 (by simp) ho
        have HP := Lib.hid hp
        have HO := Lib.hid ho
        clear hp ho hw9 hC9 R4 B4 hB9
        refine HP.out.mono ?_
        rintro e w5 ⟨v5, rfl, B5⟩
        go_wp2_with fail
        go_ret2
        have et := HE.out
        simp [numsOf, withR, HO.out] at et
        subst et
        exact ⟨_, rfl, Kd.R_nil _ _ _ _ _, HB9.out.trans (B5.mono HB9.out.size)⟩
      | some o =>
        have hol : o.length ≤ 0 + 8 * ([28, f4, (data.length : Int)] : List Int).length := vput_len ho
        simp only [List.length_cons, List.length_nil] at hol
        have hp := putSome (l := [28, f4, (data.length : Int)]) hC9 hc9 hw9 (by simp) ho
        have HP := Lib.hid hp
        have HO := Lib.hid ho
        clear hp ho hw9 hC9 R4 B4 hB9
        refine HP.out.mono ?_
        rintro e w5 ⟨v5, rfl, R5, B5⟩
        have k6 := blk_cell (blk_below HK9.out B5) 6
        go_wp2_with (first
          | ((with_reducible refine gate_builtin (b := .append) (xs := #[.tmp 201, .tmp 203]) rfl ?_); refine appB (w0 := _) _ rfl (.tmp 201) (.tmp 203) rfl (A := A6) (ys := data) R5 rfl rfl rfl (Kd.C_below HC69.out B5) B5 B5.size (by omega) ?_; intro v6 w6 R6 B6 G6 N6; clear G6 N6 k6))
        go_ret2
        have et := HE.out
        simp [numsOf, withR, HO.out] at et
        subst et
        exact ⟨_, rfl, Kd.R_lower R6 HB9.out.size, HB9.out.trans (B6.mono HB9.out.size)⟩

set_option maxHeartbeats 8000000 in
set_option maxRecDepth 100000 in
theorem ref_6 {w : World} (f1 f2 f3 f4 : Int) (f5 : Bool) {A6 A7 : Option Addr} {c6 c7 : Nat} {data : List Int} {acks : List S84} (b1 : Encode.bd f1) (b2 : Encode.bd f2) (b3 : Encode.bd f3) (b4 : Encode.bd f4) (hC6 : CB w A6 data) (hc6 : data.length ≤ c6) (hd : data.length ≤ 3000) (hC7 : Kd.C k84 w A7 acks.length acks) (hc7 : acks.length ≤ c7) (hba : bds acks) (hla : acks.length ≤ 1000) :
    Calls Try.prog 39 #[.agg #[.int .u64 6, .int .u64 f1, .int .u64 f2, .int .u64 f3, .int .u64 f4, .bool f5, .slice A6 data.length c6, .slice A7 acks.length c7]] w fun e w' => ∃ v, e = .returned (.tuple #[v, .int .i64 (encF okS ackOf ⟨6, f1, f2, f3, f4, f5, data, acks⟩).2]) ∧ RB w' w.heap.size v (encF okS ackOf ⟨6, f1, f2, f3, f4, f5, data, acks⟩).1 ∧ Below w.heap.size w w' := by
  obtain ⟨t, ht⟩ : ∃ t, encF okS ackOf ⟨6, f1, f2, f3, f4, f5, data, acks⟩ = t := ⟨_, rfl⟩
  rw [ht]
  have HT := Lib.hid ht
  have hk := heap_alloc_new w (.cells #[.int .u64 6, .int .u64 f1, .int .u64 f2, .int .u64 f3, .int .u64 f4, .bool f5, .slice A6 data.length c6, .slice A7 acks.length c7] 58)
  have BL := (Below.refl w.heap.size w).alloc (Nat.le_refl _) (.cells #[.int .u64 6, .int .u64 f1, .int .u64 f2, .int .u64 f3, .int .u64 f4, .bool f5, .slice A6 data.length c6, .slice A7 acks.length c7] 58)
  obtain ⟨w1, hw1⟩ : ∃ w1 : World, w1 = w.alloc (.cells #[.int .u64 6, .int .u64 f1, .int .u64 f2, .int .u64 f3, .int .u64 f4, .bool f5, .slice A6 data.length c6, .slice A7 acks.length c7] 58) := ⟨_, rfl⟩
  rw [← hw1] at hk BL
  have HW1 := Lib.hid hw1
  have HK := Lib.hid hk
  have HBL := Lib.hid BL
  obtain ⟨k0, k1, k2, k3, k4, k5, k6, k7⟩ := cells8 hk
  have HC6 := Lib.hid (Kd.C_below hC6 BL)
  have HC7 := Lib.hid (Kd.C_below hC7 BL)
  have HBA := Lib.hid hba
  have HB1 := Lib.hid b1
  have HB2 := Lib.hid b2
  have HB3 := Lib.hid b3
  have HB4 := Lib.hid b4
  have hlw : IntKind.u64.wrap (data.length : Int) = data.length := by rw [IntKind.wrap_u64]; omega
  clear hw1 hk BL hC6 hC7 ht hba b1 b2 b3 b4
  go_enter Try.func39, Try.ntmps39
  go_upto_region 1 with fail
  rw [← HW1.out]
  clear HW1
  by_cases hlong : (data.length : Int) > 2048
  · go_wp2_with fail
    go_ret2
    have et := HT.out
    unfold encF at et
    rw [if_pos hlong] at et
    subst et
    exact ⟨_, rfl, Kd.R_nil _ _ _ _ _, HBL.out⟩
  · have et := HT.out
    unfold encF at et
    rw [if_neg hlong, if_neg (by simp)] at et
    have HE := Lib.hid et
    clear et
    have hws : IntKind.u64.wrap (4611686018427387903 - (data.length : Int)) = 4611686018427387903 - (data.length : Int) := by rw [IntKind.wrap_u64]; omega
    by_cases hn : (data.length : Int) > 0
    · by_cases hr : f2 > 4611686018427387903 - (data.length : Int)
      · go_wp2_with fail
        have hkn := known_calls 6 w1
        rw [show knownB 6 = true from rfl] at hkn
        refine hkn.mono ?_
        clear hkn
        rintro e w2 ⟨rfl, Bx⟩
        have HBx := Lib.hid Bx
        obtain ⟨k0, k1, k2, k3, k4, k5, k6, k7⟩ := cells8 (blk_below HK.out Bx)
        clear Bx
        go_wp2_with (first
          | ((with_reducible refine gate_dst (N := 39) rfl ?_); refine litUL (w0 := w2) w2.heap.size rfl (N := 39) rfl [6] ?hr (Below.refl _ _) (Nat.le_refl _) (by simp) ?_; (case hr => first | (go_simp; done) | (go_simp; rfl)); intro v3 w3 R3 B3; clear k0 k1 k2 k3 k4 k5 k6 k7; obtain ⟨k0, k1, k2, k3, k4, k5, k6, k7⟩ := cells8 (blk_below HK.out (HBx.out.trans (B3.mono HBx.out.size)))))
        go_ret2
        have et := HE.out
        rw [if_neg (by simp), if_pos ⟨by simp, hr⟩] at et
        subst et
        have hB9 := HBL.out.trans ((HBx.out.trans (B3.mono HBx.out.size)).mono HBL.out.size)
        exact ⟨_, rfl, Kd.R_nil _ _ _ _ _, hB9⟩
      · have et := HE.out
        clear HE
        rw [if_neg (by simp), if_neg (fun h => absurd h.2 (by omega))] at et
        have HE := Lib.hid et
        clear et
        go_wp2_with fail
        have hkn := known_calls 6 w1
        rw [show knownB 6 = true from rfl] at hkn
        refine hkn.mono ?_
        clear hkn
        rintro e w2 ⟨rfl, Bx⟩
        have HBx := Lib.hid Bx
        obtain ⟨k0, k1, k2, k3, k4, k5, k6, k7⟩ := cells8 (blk_below HK.out Bx)
        clear Bx
        go_wp2_with (first
          | ((with_reducible refine gate_dst (N := 39) rfl ?_); refine litUL (w0 := w2) w2.heap.size rfl (N := 39) rfl [6] ?hr (Below.refl _ _) (Nat.le_refl _) (by simp) ?_; (case hr => first | (go_simp; done) | (go_simp; rfl)); intro v3 w3 R3 B3; clear k0 k1 k2 k3 k4 k5 k6 k7; obtain ⟨k0, k1, k2, k3, k4, k5, k6, k7⟩ := cells8 (blk_below HK.out (HBx.out.trans (B3.mono HBx.out.size))))
          | ((with_reducible refine gate_builtin (b := .append) (xs := #[.tmp 143, .tmp 147]) rfl ?_); refine appUL (w0 := w2) w2.heap.size rfl (.tmp 143) (.tmp 147) rfl (Kd.R_below R3 (below_alloc (Below.refl _ _) _)) rfl rfl rfl (C_lit .u64 w3 22 [f2, (data.length : Int)] (by simp)) (B3.alloc B3.size _) (Nat.le_trans B3.size (by simp)) (by simp) ?_; intro v4 w4 R4 B4; clear R3 B3; clear k0 k1 k2 k3 k4 k5 k6 k7; obtain ⟨k0, k1, k2, k3, k4, k5, k6, k7⟩ := cells8 (blk_below HK.out (HBx.out.trans (B4.mono HBx.out.size)))))
        obtain ⟨A9, c9, e9, hc9, hC9, -⟩ := RU.read R4
        subst e9
        have hB9 := HBL.out.trans ((HBx.out.trans (B4.mono HBx.out.size)).mono HBL.out.size)
        have HB9 := Lib.hid hB9
        have HK9 := Lib.hid (blk_below HK.out (HBx.out.trans (B4.mono HBx.out.size)))
        have HC69 := Lib.hid (Kd.C_below HC6.out (HBx.out.trans (B4.mono HBx.out.size)))
        have hw9 : ∀ n ∈ ([6, f2, (data.length : Int)] : List Int), 0 ≤ n ∧ n < 18446744073709551616 := by
          intro n hn
          simp only [List.mem_cons, List.not_mem_nil, or_false] at hn
          have q1 := HB1.out; have q2 := HB2.out; have q3 := HB3.out; have q4 := HB4.out
          unfold Encode.bd at *
          omega
        obtain ⟨o, ho⟩ : ∃ o, vput [] [6, f2, (data.length : Int)] = o := ⟨_, rfl⟩
        cases o with
        | none =>
          have hp := putNone (l := [6, f2, (data.length : Int)]) hC9 hc9 hw9 (by simp) ho
          have HP := Lib.hid hp
          have HO := Lib.hid ho
          clear hp ho hw9 hC9 R4 B4 hB9
          refine HP.out.mono ?_
          rintro e w5 ⟨v5, rfl, B5⟩
          go_wp2_with fail
          go_ret2
          have et := HE.out
          simp [numsOf, withR, HO.out] at et
          subst et
          exact ⟨_, rfl, Kd.R_nil _ _ _ _ _, HB9.out.trans (B5.mono HB9.out.size)⟩
        | some o =>
          have hol : o.length ≤ 0 + 8 * ([6, f2, (data.length : Int)] : List Int).length := vput_len ho
          simp only [List.length_cons, List.length_nil] at hol
          have hp := putSome (l := [6, f2, (data.length : Int)]) hC9 hc9 hw9 (by simp) ho
          have HP := Lib.hid hp
          have HO := Lib.hid ho
          clear hp ho hw9 hC9 R4 B4 hB9
          refine HP.out.mono ?_
          rintro e w5 ⟨v5, rfl, R5, B5⟩
          have k6 := blk_cell (blk_below HK9.out B5) 6
          go_wp2_with (first
            | ((with_reducible refine gate_builtin (b := .append) (xs := #[.tmp 201, .tmp 203]) rfl ?_); refine appB (w0 := _) _ rfl (.tmp 201) (.tmp 203) rfl (A := A6) (ys := data) R5 rfl rfl rfl (Kd.C_below HC69.out B5) B5 B5.size (by omega) ?_; intro v6 w6 R6 B6 G6 N6; clear G6 N6 k6))
          go_ret2
          have et := HE.out
          simp [numsOf, withR, HO.out] at et
          subst et
          exact ⟨_, rfl, Kd.R_lower R6 HB9.out.size, HB9.out.trans (B6.mono HB9.out.size)⟩
    · by_cases hr : f2 > 4611686018427387903 - (data.length : Int)
      · go_wp2_with fail
        have hkn := known_calls 6 w1
        rw [show knownB 6 = true from rfl] at hkn
        refine hkn.mono ?_
        clear hkn
        rintro e w2 ⟨rfl, Bx⟩
        have HBx := Lib.hid Bx
        obtain ⟨k0, k1, k2, k3, k4, k5, k6, k7⟩ := cells8 (blk_below HK.out Bx)
        clear Bx
        go_wp2_with (first
          | ((with_reducible refine gate_dst (N := 39) rfl ?_); refine litUL (w0 := w2) w2.heap.size rfl (N := 39) rfl [6] ?hr (Below.refl _ _) (Nat.le_refl _) (by simp) ?_; (case hr => first | (go_simp; done) | (go_simp; rfl)); intro v3 w3 R3 B3; clear k0 k1 k2 k3 k4 k5 k6 k7; obtain ⟨k0, k1, k2, k3, k4, k5, k6, k7⟩ := cells8 (blk_below HK.out (HBx.out.trans (B3.mono HBx.out.size)))))
        go_ret2
        have et := HE.out
        rw [if_neg (by simp), if_pos ⟨by simp, hr⟩] at et
        subst et
        have hB9 := HBL.out.trans ((HBx.out.trans (B3.mono HBx.out.size)).mono HBL.out.size)
        exact ⟨_, rfl, Kd.R_nil _ _ _ _ _, hB9⟩
      · have et := HE.out
        clear HE
        rw [if_neg (by simp), if_neg (fun h => absurd h.2 (by omega))] at et
        have HE := Lib.hid et
        clear et
        go_wp2_with fail
        have hkn := known_calls 6 w1
        rw [show knownB 6 = true from rfl] at hkn
        refine hkn.mono ?_
        clear hkn
        rintro e w2 ⟨rfl, Bx⟩
        have HBx := Lib.hid Bx
        obtain ⟨k0, k1, k2, k3, k4, k5, k6, k7⟩ := cells8 (blk_below HK.out Bx)
        clear Bx
        go_wp2_with (first
          | ((with_reducible refine gate_dst (N := 39) rfl ?_); refine litUL (w0 := w2) w2.heap.size rfl (N := 39) rfl [6] ?hr (Below.refl _ _) (Nat.le_refl _) (by simp) ?_; (case hr => first | (go_simp; done) | (go_simp; rfl)); intro v3 w3 R3 B3; clear k0 k1 k2 k3 k4 k5 k6 k7; obtain ⟨k0, k1, k2, k3, k4, k5, k6, k7⟩ := cells8 (blk_below HK.out (HBx.out.trans (B3.mono HBx.out.size))))
          | ((with_reducible refine gate_builtin (b := .append) (xs := #[.tmp 143, .tmp 147]) rfl ?_); refine appUL (w0 := w2) w2.heap.size rfl (.tmp 143) (.tmp 147) rfl (Kd.R_below R3 (below_alloc (Below.refl _ _) _)) rfl rfl rfl (C_lit .u64 w3 22 [f2, (data.length : Int)] (by simp)) (B3.alloc B3.size _) (Nat.le_trans B3.size (by simp)) (by simp) ?_; intro v4 w4 R4 B4; clear R3 B3; clear k0 k1 k2 k3 k4 k5 k6 k7; obtain ⟨k0, k1, k2, k3, k4, k5, k6, k7⟩ := cells8 (blk_below HK.out (HBx.out.trans (B4.mono HBx.out.size)))))
        obtain ⟨A9, c9, e9, hc9, hC9, -⟩ := RU.read R4
        subst e9
        have hB9 := HBL.out.trans ((HBx.out.trans (B4.mono HBx.out.size)).mono HBL.out.size)
        have HB9 := Lib.hid hB9
        have HK9 := Lib.hid (blk_below HK.out (HBx.out.trans (B4.mono HBx.out.size)))
        have HC69 := Lib.hid (Kd.C_below HC6.out (HBx.out.trans (B4.mono HBx.out.size)))
        have hw9 : ∀ n ∈ ([6, f2, (data.length : Int)] : List Int), 0 ≤ n ∧ n < 18446744073709551616 := by
          intro n hn
          simp only [List.mem_cons, List.not_mem_nil, or_false] at hn
          have q1 := HB1.out; have q2 := HB2.out; have q3 := HB3.out; have q4 := HB4.out
          unfold Encode.bd at *
          omega
        obtain ⟨o, ho⟩ : ∃ o, vput [] [6, f2, (data.length : Int)] = o := ⟨_, rfl⟩
        cases o with
        | none =>
          have hp := putNone (l := [6, f2, (data.length : Int)]) hC9 hc9 hw9 (by simp) ho
          have HP := Lib.hid hp
          have HO := Lib.hid ho
          clear hp ho hw9 hC9 R4 B4 hB9
          refine HP.out.mono ?_
          rintro e w5 ⟨v5, rfl, B5⟩
          go_wp2_with fail
          go_ret2
          have et := HE.out
          simp [numsOf, withR, HO.out] at et
          subst et
          exact ⟨_, rfl, Kd.R_nil _ _ _ _ _, HB9.out.trans (B5.mono HB9.out.size)⟩
        | some o =>
          have hol : o.length ≤ 0 + 8 * ([6, f2, (data.length : Int)] : List Int).length := vput_len ho
          simp only [List.length_cons, List.length_nil] at hol
          have hp := putSome (l := [6, f2, (data.length : Int)]) hC9 hc9 hw9 (by simp) ho
          have HP := Lib.hid hp
          have HO := Lib.hid ho
          clear hp ho hw9 hC9 R4 B4 hB9
          refine HP.out.mono ?_
          rintro e w5 ⟨v5, rfl, R5, B5⟩
          have k6 := blk_cell (blk_below HK9.out B5) 6
          go_wp2_with (first
            | ((with_reducible refine gate_builtin (b := .append) (xs := #[.tmp 201, .tmp 203]) rfl ?_); refine appB (w0 := _) _ rfl (.tmp 201) (.tmp 203) rfl (A := A6) (ys := data) R5 rfl rfl rfl (Kd.C_below HC69.out B5) B5 B5.size (by omega) ?_; intro v6 w6 R6 B6 G6 N6; clear G6 N6 k6))
          go_ret2
          have et := HE.out
          simp [numsOf, withR, HO.out] at et
          subst et
          exact ⟨_, rfl, Kd.R_lower R6 HB9.out.size, HB9.out.trans (B6.mono HB9.out.size)⟩

set_option maxHeartbeats 8000000 in
set_option maxRecDepth 100000 in
theorem ref_8 {w : World} (f1 f2 f3 f4 : Int) (f5 : Bool) {A6 A7 : Option Addr} {c6 c7 : Nat} {data : List Int} {acks : List S84} (b1 : Encode.bd f1) (b2 : Encode.bd f2) (b3 : Encode.bd f3) (b4 : Encode.bd f4) (hC6 : CB w A6 data) (hc6 : data.length ≤ c6) (hd : data.length ≤ 3000) (hC7 : Kd.C k84 w A7 acks.length acks) (hc7 : acks.length ≤ c7) (hba : bds acks) (hla : acks.length ≤ 1000) :
    Calls Try.prog 39 #[.agg #[.int .u64 8, .int .u64 f1, .int .u64 f2, .int .u64 f3, .int .u64 f4, .bool f5, .slice A6 data.length c6, .slice A7 acks.length c7]] w fun e w' => ∃ v, e = .returned (.tuple #[v, .int .i64 (encF okS ackOf ⟨8, f1, f2, f3, f4, f5, data, acks⟩).2]) ∧ RB w' w.heap.size v (encF okS ackOf ⟨8, f1, f2, f3, f4, f5, data, acks⟩).1 ∧ Below w.heap.size w w' := by
  obtain ⟨t, ht⟩ : ∃ t, encF okS ackOf ⟨8, f1, f2, f3, f4, f5, data, acks⟩ = t := ⟨_, rfl⟩
  rw [ht]
  have HT := Lib.hid ht
  have hk := heap_alloc_new w (.cells #[.int .u64 8, .int .u64 f1, .int .u64 f2, .int .u64 f3, .int .u64 f4, .bool f5, .slice A6 data.length c6, .slice A7 acks.length c7] 58)
  have BL := (Below.refl w.heap.size w).alloc (Nat.le_refl _) (.cells #[.int .u64 8, .int .u64 f1, .int .u64 f2, .int .u64 f3, .int .u64 f4, .bool f5, .slice A6 data.length c6, .slice A7 acks.length c7] 58)
  obtain ⟨w1, hw1⟩ : ∃ w1 : World, w1 = w.alloc (.cells #[.int .u64 8, .int .u64 f1, .int .u64 f2, .int .u64 f3, .int .u64 f4, .bool f5, .slice A6 data.length c6, .slice A7 acks.length c7] 58) := ⟨_, rfl⟩
  rw [← hw1] at hk BL
  have HW1 := Lib.hid hw1
  have HK := Lib.hid hk
  have HBL := Lib.hid BL
  obtain ⟨k0, k1, k2, k3, k4, k5, k6, k7⟩ := cells8 hk
  have HC6 := Lib.hid (Kd.C_below hC6 BL)
  have HC7 := Lib.hid (Kd.C_below hC7 BL)
  have HBA := Lib.hid hba
  have HB1 := Lib.hid b1
  have HB2 := Lib.hid b2
  have HB3 := Lib.hid b3
  have HB4 := Lib.hid b4
  have hlw : IntKind.u64.wrap (data.length : Int) = data.length := by rw [IntKind.wrap_u64]; omega
  clear hw1 hk BL hC6 hC7 ht hba b1 b2 b3 b4
  go_enter Try.func39, Try.ntmps39
  go_upto_region 1 with fail
  rw [← HW1.out]
  clear HW1
  by_cases hlong : (data.length : Int) > 2048
  · go_wp2_with fail
    go_ret2
    have et := HT.out
    unfold encF at et
    rw [if_pos hlong] at et
    subst et
    exact ⟨_, rfl, Kd.R_nil _ _ _ _ _, HBL.out⟩
  · have et := HT.out
    unfold encF at et
    rw [if_neg hlong, if_neg (by simp)] at et
    have HE := Lib.hid et
    clear et
    have hws : IntKind.u64.wrap (4611686018427387903 - (data.length : Int)) = 4611686018427387903 - (data.length : Int) := by rw [IntKind.wrap_u64]; omega
    by_cases hn : (data.length : Int) > 0
    · by_cases hr : f2 > 4611686018427387903 - (data.length : Int)
      · go_wp2_with fail
        have hkn := known_calls 8 w1
        rw [show knownB 8 = true from rfl] at hkn
        refine hkn.mono ?_
        clear hkn
        rintro e w2 ⟨rfl, Bx⟩
        have HBx := Lib.hid Bx
        obtain ⟨k0, k1, k2, k3, k4, k5, k6, k7⟩ := cells8 (blk_below HK.out Bx)
        clear Bx
        go_wp2_with (first
          | ((with_reducible refine gate_dst (N := 39) rfl ?_); refine litUL (w0 := w2) w2.heap.size rfl (N := 39) rfl [8] ?hr (Below.refl _ _) (Nat.le_refl _) (by simp) ?_; (case hr => first | (go_simp; done) | (go_simp; rfl)); intro v3 w3 R3 B3; clear k0 k1 k2 k3 k4 k5 k6 k7; obtain ⟨k0, k1, k2, k3, k4, k5, k6, k7⟩ := cells8 (blk_below HK.out (HBx.out.trans (B3.mono HBx.out.size)))))
        go_ret2
        have et := HE.out
        rw [if_neg (by simp), if_pos ⟨by simp, hr⟩] at et
        subst et
        have hB9 := HBL.out.trans ((HBx.out.trans (B3.mono HBx.out.size)).mono HBL.out.size)
        exact ⟨_, rfl, Kd.R_nil _ _ _ _ _, hB9⟩
      · have et := HE.out
        clear HE
        rw [if_neg (by simp), if_neg (fun h => absurd h.2 (by omega))] at et
        have HE := Lib.hid et
        clear et
        cases f5 <;> by_cases hoff : f2 > 0
        · go_wp2_with fail
          have hkn := known_calls 8 w1
          rw [show knownB 8 = true from rfl] at hkn
          refine hkn.mono ?_
          clear hkn
          rintro e w2 ⟨rfl, Bx⟩
          have HBx := Lib.hid Bx
          obtain ⟨k0, k1, k2, k3, k4, k5, k6, k7⟩ := cells8 (blk_below HK.out Bx)
          clear Bx
          go_wp2_with (first
            | ((with_reducible refine gate_dst (N := 39) rfl ?_); refine litUL (w0 := w2) w2.heap.size rfl (N := 39) rfl [8] ?hr (Below.refl _ _) (Nat.le_refl _) (by simp) ?_; (case hr => first | (go_simp; done) | (go_simp; rfl)); intro v3 w3 R3 B3; clear k0 k1 k2 k3 k4 k5 k6 k7; obtain ⟨k0, k1, k2, k3, k4, k5, k6, k7⟩ := cells8 (blk_below HK.out (HBx.out.trans (B3.mono HBx.out.size))))
            | ((with_reducible refine gate_dst (N := 163) rfl ?_); refine litUL (w0 := w2) w2.heap.size rfl (N := 163) rfl [14, f1, f2, (data.length : Int)] ?hr B3 B3.size (by simp) ?_; (case hr => first | (go_simp; done) | (go_simp; rfl)); intro v4 w4 R4 B4; clear R3 B3; clear k0 k1 k2 k3 k4 k5 k6 k7; obtain ⟨k0, k1, k2, k3, k4, k5, k6, k7⟩ := cells8 (blk_below HK.out (HBx.out.trans (B4.mono HBx.out.size)))))
          obtain ⟨A9, c9, e9, hc9, hC9, -⟩ := RU.read R4
          subst e9
          have hB9 := HBL.out.trans ((HBx.out.trans (B4.mono HBx.out.size)).mono HBL.out.size)
          have HB9 := Lib.hid hB9
          have HK9 := Lib.hid (blk_below HK.out (HBx.out.trans (B4.mono HBx.out.size)))
          have HC69 := Lib.hid (Kd.C_below HC6.out (HBx.out.trans (B4.mono HBx.out.size)))
          have hw9 : ∀ n ∈ ([14, f1, f2, (data.length : Int)] : List Int), 0 ≤ n ∧ n < 18446744073709551616 := by
            intro n hn
            simp only [List.mem_cons, List.not_mem_nil, or_false] at hn
            have q1 := HB1.out; have q2 := HB2.out; have q3 := HB3.out; have q4 := HB4.out
            unfold Encode.bd at *
            omega
          obtain ⟨o, ho⟩ : ∃ o, vput [] [14, f1, f2, (data.length : Int)] = o := ⟨_, rfl⟩
          cases o with
          | none =>
            have hp := putNone (l := [14, f1, f2, (data.length : Int)]) hC9 hc9 hw9 (by simp) ho
            have HP := Lib.hid hp
            have HO := Lib.hid ho
            clear hp ho hw9 hC9 R4 B4 hB9
            refine HP.out.mono ?_
            rintro e w5 ⟨v5, rfl, B5⟩
            go_wp2_with fail
            go_ret2
            have et := HE.out
            simp [numsOf, (show 0 < f2 by omega), withR, HO.out] at et
            subst et
            exact ⟨_, rfl, Kd.R_nil _ _ _ _ _, HB9.out.trans (B5.mono HB9.out.size)⟩
          | some o =>
            have hol : o.length ≤ 0 + 8 * ([14, f1, f2, (data.length : Int)] : List Int).length := vput_len ho
            simp only [List.length_cons, List.length_nil] at hol
            have hp := putSome (l := [14, f1, f2, (data.length : Int)]) hC9 hc9 hw9 (by simp) ho
            have HP := Lib.hid hp
            have HO := Lib.hid ho
            clear hp ho hw9 hC9 R4 B4 hB9
            refine HP.out.mono ?_
            rintro e w5 ⟨v5, rfl, R5, B5⟩
            have k6 := blk_cell (blk_below HK9.out B5) 6
            go_wp2_with (first
              | ((with_reducible refine gate_builtin (b := .append) (xs := #[.tmp 201, .tmp 203]) rfl ?_); refine appB (w0 := _) _ rfl (.tmp 201) (.tmp 203) rfl (A := A6) (ys := data) R5 rfl rfl rfl (Kd.C_below HC69.out B5) B5 B5.size (by omega) ?_; intro v6 w6 R6 B6 G6 N6; clear G6 N6 k6))
            go_ret2
            have et := HE.out
            simp [numsOf, (show 0 < f2 by omega), withR, HO.out] at et
            subst et
            exact ⟨_, rfl, Kd.R_lower R6 HB9.out.size, HB9.out.trans (B6.mono HB9.out.size)⟩
        · go_wp2_with fail
          have hkn := known_calls 8 w1
          rw [show knownB 8 = true from rfl] at hkn
          refine hkn.mono ?_
          clear hkn
          rintro e w2 ⟨rfl, Bx⟩
          have HBx := Lib.hid Bx
          obtain ⟨k0, k1, k2, k3, k4, k5, k6, k7⟩ := cells8 (blk_below HK.out Bx)
          clear Bx
          go_wp2_with (first
            | ((with_reducible refine gate_dst (N := 39) rfl ?_); refine litUL (w0 := w2) w2.heap.size rfl (N := 39) rfl [8] ?hr (Below.refl _ _) (Nat.le_refl _) (by simp) ?_; (case hr => first | (go_simp; done) | (go_simp; rfl)); intro v3 w3 R3 B3; clear k0 k1 k2 k3 k4 k5 k6 k7; obtain ⟨k0, k1, k2, k3, k4, k5, k6, k7⟩ := cells8 (blk_below HK.out (HBx.out.trans (B3.mono HBx.out.size))))
            | ((with_reducible refine gate_dst (N := 168) rfl ?_); refine litUL (w0 := w2) w2.heap.size rfl (N := 168) rfl [10, f1, (data.length : Int)] ?hr B3 B3.size (by simp) ?_; (case hr => first | (go_simp; done) | (go_simp; rfl)); intro v4 w4 R4 B4; clear R3 B3; clear k0 k1 k2 k3 k4 k5 k6 k7; obtain ⟨k0, k1, k2, k3, k4, k5, k6, k7⟩ := cells8 (blk_below HK.out (HBx.out.trans (B4.mono HBx.out.size)))))
          obtain ⟨A9, c9, e9, hc9, hC9, -⟩ := RU.read R4
          subst e9
          have hB9 := HBL.out.trans ((HBx.out.trans (B4.mono HBx.out.size)).mono HBL.out.size)
          have HB9 := Lib.hid hB9
          have HK9 := Lib.hid (blk_below HK.out (HBx.out.trans (B4.mono HBx.out.size)))
          have HC69 := Lib.hid (Kd.C_below HC6.out (HBx.out.trans (B4.mono HBx.out.size)))
          have hw9 : ∀ n ∈ ([10, f1, (data.length : Int)] : List Int), 0 ≤ n ∧ n < 18446744073709551616 := by
            intro n hn
            simp only [List.mem_cons, List.not_mem_nil, or_false] at hn
            have q1 := HB1.out; have q2 := HB2.out; have q3 := HB3.out; have q4 := HB4.out
            unfold Encode.bd at *
            omega
          obtain ⟨o, ho⟩ : ∃ o, vput [] [10, f1, (data.length : Int)] = o := ⟨_, rfl⟩
          cases o with
          | none =>
            have hp := putNone (l := [10, f1, (data.length : Int)]) hC9 hc9 hw9 (by simp) ho
            have HP := Lib.hid hp
            have HO := Lib.hid ho
            clear hp ho hw9 hC9 R4 B4 hB9
            refine HP.out.mono ?_
            rintro e w5 ⟨v5, rfl, B5⟩
            go_wp2_with fail
            go_ret2
            have et := HE.out
            simp [numsOf, (show ¬ (0 < f2) by omega), withR, HO.out] at et
            subst et
            exact ⟨_, rfl, Kd.R_nil _ _ _ _ _, HB9.out.trans (B5.mono HB9.out.size)⟩
          | some o =>
            have hol : o.length ≤ 0 + 8 * ([10, f1, (data.length : Int)] : List Int).length := vput_len ho
            simp only [List.length_cons, List.length_nil] at hol
            have hp := putSome (l := [10, f1, (data.length : Int)]) hC9 hc9 hw9 (by simp) ho
            have HP := Lib.hid hp
            have HO := Lib.hid ho
            clear hp ho hw9 hC9 R4 B4 hB9
            refine HP.out.mono ?_
            rintro e w5 ⟨v5, rfl, R5, B5⟩
            have k6 := blk_cell (blk_below HK9.out B5) 6
            go_wp2_with (first
              | ((with_reducible refine gate_builtin (b := .append) (xs := #[.tmp 201, .tmp 203]) rfl ?_); refine appB (w0 := _) _ rfl (.tmp 201) (.tmp 203) rfl (A := A6) (ys := data) R5 rfl rfl rfl (Kd.C_below HC69.out B5) B5 B5.size (by omega) ?_; intro v6 w6 R6 B6 G6 N6; clear G6 N6 k6))
            go_ret2
            have et := HE.out
            simp [numsOf, (show ¬ (0 < f2) by omega), withR, HO.out] at et
            subst et
            exact ⟨_, rfl, Kd.R_lower R6 HB9.out.size, HB9.out.trans (B6.mono HB9.out.size)⟩
        · go_wp2_with fail
          have hkn := known_calls 8 w1
          rw [show knownB 8 = true from rfl] at hkn
          refine hkn.mono ?_
          clear hkn
          rintro e w2 ⟨rfl, Bx⟩
          have HBx := Lib.hid Bx
          obtain ⟨k0, k1, k2, k3, k4, k5, k6, k7⟩ := cells8 (blk_below HK.out Bx)
          clear Bx
          go_wp2_with (first
            | ((with_reducible refine gate_dst (N := 39) rfl ?_); refine litUL (w0 := w2) w2.heap.size rfl (N := 39) rfl [8] ?hr (Below.refl _ _) (Nat.le_refl _) (by simp) ?_; (case hr => first | (go_simp; done) | (go_simp; rfl)); intro v3 w3 R3 B3; clear k0 k1 k2 k3 k4 k5 k6 k7; obtain ⟨k0, k1, k2, k3, k4, k5, k6, k7⟩ := cells8 (blk_below HK.out (HBx.out.trans (B3.mono HBx.out.size))))
            | ((with_reducible refine gate_dst (N := 163) rfl ?_); refine litUL (w0 := w2) w2.heap.size rfl (N := 163) rfl [15, f1, f2, (data.length : Int)] ?hr B3 B3.size (by simp) ?_; (case hr => first | (go_simp; done) | (go_simp; rfl)); intro v4 w4 R4 B4; clear R3 B3; clear k0 k1 k2 k3 k4 k5 k6 k7; obtain ⟨k0, k1, k2, k3, k4, k5, k6, k7⟩ := cells8 (blk_below HK.out (HBx.out.trans (B4.mono HBx.out.size)))))
          obtain ⟨A9, c9, e9, hc9, hC9, -⟩ := RU.read R4
          subst e9
          have hB9 := HBL.out.trans ((HBx.out.trans (B4.mono HBx.out.size)).mono HBL.out.size)
          have HB9 := Lib.hid hB9
          have HK9 := Lib.hid (blk_below HK.out (HBx.out.trans (B4.mono HBx.out.size)))
          have HC69 := Lib.hid (Kd.C_below HC6.out (HBx.out.trans (B4.mono HBx.out.size)))
          have hw9 : ∀ n ∈ ([15, f1, f2, (data.length : Int)] : List Int), 0 ≤ n ∧ n < 18446744073709551616 := by
            intro n hn
            simp only [List.mem_cons, List.not_mem_nil, or_false] at hn
            have q1 := HB1.out; have q2 := HB2.out; have q3 := HB3.out; have q4 := HB4.out
            unfold Encode.bd at *
            omega
          obtain ⟨o, ho⟩ : ∃ o, vput [] [15, f1, f2, (data.length : Int)] = o := ⟨_, rfl⟩
          cases o with
          | none =>
            have hp := putNone (l := [15, f1, f2, (data.length : Int)]) hC9 hc9 hw9 (by simp) ho
            have HP := Lib.hid hp
            have HO := Lib.hid ho
            clear hp ho hw9 hC9 R4 B4 hB9
            refine HP.out.mono ?_
            rintro e w5 ⟨v5, rfl, B5⟩
            go_wp2_with fail
            go_ret2
            have et := HE.out
            simp [numsOf, (show 0 < f2 by omega), withR, HO.out] at et
            subst et
            exact ⟨_, rfl, Kd.R_nil _ _ _ _ _, HB9.out.trans (B5.mono HB9.out.size)⟩
          | some o =>
            have hol : o.length ≤ 0 + 8 * ([15, f1, f2, (data.length : Int)] : List Int).length := vput_len ho
            simp only [List.length_cons, List.length_nil] at hol
            have hp := putSome (l := [15, f1, f2, (data.length : Int)]) hC9 hc9 hw9 (by simp) ho
            have HP := Lib.hid hp
            have HO := Lib.hid ho
            clear hp ho hw9 hC9 R4 B4 hB9
            refine HP.out.mono ?_
            rintro e w5 ⟨v5, rfl, R5, B5⟩
            have k6 := blk_cell (blk_below HK9.out B5) 6
            go_wp2_with (first
              | ((with_reducible refine gate_builtin (b := .append) (xs := #[.tmp 201, .tmp 203]) rfl ?_); refine appB (w0 := _) _ rfl (.tmp 201) (.tmp 203) rfl (A := A6) (ys := data) R5 rfl rfl rfl (Kd.C_below HC69.out B5) B5 B5.size (by omega) ?_; intro v6 w6 R6 B6 G6 N6; clear G6 N6 k6))
            go_ret2
            have et := HE.out
            simp [numsOf, (show 0 < f2 by omega), withR, HO.out] at et
            subst et
            exact ⟨_, rfl, Kd.R_lower R6 HB9.out.size, HB9.out.trans (B6.mono HB9.out.size)⟩
        · go_wp2_with fail
          have hkn := known_calls 8 w1
          rw [show knownB 8 = true from rfl] at hkn
          refine hkn.mono ?_
          clear hkn
          rintro e w2 ⟨rfl, Bx⟩
          have HBx := Lib.hid Bx
          obtain ⟨k0, k1, k2, k3, k4, k5, k6, k7⟩ := cells8 (blk_below HK.out Bx)
          clear Bx
          go_wp2_with (first
            | ((with_reducible refine gate_dst (N := 39) rfl ?_); refine litUL (w0 := w2) w2.heap.size rfl (N := 39) rfl [8] ?hr (Below.refl _ _) (Nat.le_refl _) (by simp) ?_; (case hr => first | (go_simp; done) | (go_simp; rfl)); intro v3 w3 R3 B3; clear k0 k1 k2 k3 k4 k5 k6 k7; obtain ⟨k0, k1, k2, k3, k4, k5, k6, k7⟩ := cells8 (blk_below HK.out (HBx.out.trans (B3.mono HBx.out.size))))
            | ((with_reducible refine gate_dst (N := 168) rfl ?_); refine litUL (w0 := w2) w2.heap.size rfl (N := 168) rfl [11, f1, (data.length : Int)] ?hr B3 B3.size (by simp) ?_; (case hr => first | (go_simp; done) | (go_simp; rfl)); intro v4 w4 R4 B4; clear R3 B3; clear k0 k1 k2 k3 k4 k5 k6 k7; obtain ⟨k0, k1, k2, k3, k4, k5, k6, k7⟩ := cells8 (blk_below HK.out (HBx.out.trans (B4.mono HBx.out.size)))))
          obtain ⟨A9, c9, e9, hc9, hC9, -⟩ := RU.read R4
          subst e9
          have hB9 := HBL.out.trans ((HBx.out.trans (B4.mono HBx.out.size)).mono HBL.out.size)
          have HB9 := Lib.hid hB9
          have HK9 := Lib.hid (blk_below HK.out (HBx.out.trans (B4.mono HBx.out.size)))
          have HC69 := Lib.hid (Kd.C_below HC6.out (HBx.out.trans (B4.mono HBx.out.size)))
          have hw9 : ∀ n ∈ ([11, f1, (data.length : Int)] : List Int), 0 ≤ n ∧ n < 18446744073709551616 := by
            intro n hn
            simp only [List.mem_cons, List.not_mem_nil, or_false] at hn
            have q1 := HB1.out; have q2 := HB2.out; have q3 := HB3.out; have q4 := HB4.out
            unfold Encode.bd at *
            omega
          obtain ⟨o, ho⟩ : ∃ o, vput [] [11, f1, (data.length : Int)] = o := ⟨_, rfl⟩
          cases o with
          | none =>
            have hp := putNone (l := [11, f1, (data.length : Int)]) hC9 hc9 hw9 (by simp) ho
            have HP := Lib.hid hp
            have HO := Lib.hid ho
            clear hp ho hw9 hC9 R4 B4 hB9
            refine HP.out.mono ?_
            rintro e w5 ⟨v5, rfl, B5⟩
            go_wp2_with fail
            go_ret2
            have et := HE.out
            simp [numsOf, (show ¬ (0 < f2) by omega), withR, HO.out] at et
            subst et
            exact ⟨_, rfl, Kd.R_nil _ _ _ _ _, HB9.out.trans (B5.mono HB9.out.size)⟩
          | some o =>
            have hol : o.length ≤ 0 + 8 * ([11, f1, (data.length : Int)] : List Int).length := vput_len ho
            simp only [List.length_cons, List.length_nil] at hol
            have hp := putSome (l := [11, f1, (data.length : Int)]) hC9 hc9 hw9 (by simp) ho
            have HP := Lib.hid hp
            have HO := Lib.hid ho
            clear hp ho hw9 hC9 R4 B4 hB9
            refine HP.out.mono ?_
            rintro e w5 ⟨v5, rfl, R5, B5⟩
            have k6 := blk_cell (blk_below HK9.out B5) 6
            go_wp2_with (first
              | ((with_reducible refine gate_builtin (b := .append) (xs := #[.tmp 201, .tmp 203]) rfl ?_); refine appB (w0 := _) _ rfl (.tmp 201) (.tmp 203) rfl (A := A6) (ys := data) R5 rfl rfl rfl (Kd.C_below HC69.out B5) B5 B5.size (by omega) ?_; intro v6 w6 R6 B6 G6 N6; clear G6 N6 k6))
            go_ret2
            have et := HE.out
            simp [numsOf, (show ¬ (0 < f2) by omega), withR, HO.out] at et
            subst et
            exact ⟨_, rfl, Kd.R_lower R6 HB9.out.size, HB9.out.trans (B6.mono HB9.out.size)⟩
    · by_cases hr : f2 > 4611686018427387903 - (data.length : Int)
      · go_wp2_with fail
        have hkn := known_calls 8 w1
        rw [show knownB 8 = true from rfl] at hkn
        refine hkn.mono ?_
        clear hkn
        rintro e w2 ⟨rfl, Bx⟩
        have HBx := Lib.hid Bx
        obtain ⟨k0, k1, k2, k3, k4, k5, k6, k7⟩ := cells8 (blk_below HK.out Bx)
        clear Bx
        go_wp2_with (first
          | ((with_reducible refine gate_dst (N := 39) rfl ?_); refine litUL (w0 := w2) w2.heap.size rfl (N := 39) rfl [8] ?hr (Below.refl _ _) (Nat.le_refl _) (by simp) ?_; (case hr => first | (go_simp; done) | (go_simp; rfl)); intro v3 w3 R3 B3; clear k0 k1 k2 k3 k4 k5 k6 k7; obtain ⟨k0, k1, k2, k3, k4, k5, k6, k7⟩ := cells8 (blk_below HK.out (HBx.out.trans (B3.mono HBx.out.size)))))
        go_ret2
        have et := HE.out
        rw [if_neg (by simp), if_pos ⟨by simp, hr⟩] at et
        subst et
        have hB9 := HBL.out.trans ((HBx.out.trans (B3.mono HBx.out.size)).mono HBL.out.size)
        exact ⟨_, rfl, Kd.R_nil _ _ _ _ _, hB9⟩
      · have et := HE.out
        clear HE
        rw [if_neg (by simp), if_neg (fun h => absurd h.2 (by omega))] at et
        have HE := Lib.hid et
        clear et
        cases f5 <;> by_cases hoff : f2 > 0
        · go_wp2_with fail
          have hkn := known_calls 8 w1
          rw [show knownB 8 = true from rfl] at hkn
          refine hkn.mono ?_
          clear hkn
          rintro e w2 ⟨rfl, Bx⟩
          have HBx := Lib.hid Bx
          obtain ⟨k0, k1, k2, k3, k4, k5, k6, k7⟩ := cells8 (blk_below HK.out Bx)
          clear Bx
          go_wp2_with (first
            | ((with_reducible refine gate_dst (N := 39) rfl ?_); refine litUL (w0 := w2) w2.heap.size rfl (N := 39) rfl [8] ?hr (Below.refl _ _) (Nat.le_refl _) (by simp) ?_; (case hr => first | (go_simp; done) | (go_simp; rfl)); intro v3 w3 R3 B3; clear k0 k1 k2 k3 k4 k5 k6 k7; obtain ⟨k0, k1, k2, k3, k4, k5, k6, k7⟩ := cells8 (blk_below HK.out (HBx.out.trans (B3.mono HBx.out.size))))
            | ((with_reducible refine gate_dst (N := 163) rfl ?_); refine litUL (w0 := w2) w2.heap.size rfl (N := 163) rfl [14, f1, f2, (data.length : Int)] ?hr B3 B3.size (by simp) ?_; (case hr => first | (go_simp; done) | (go_simp; rfl)); intro v4 w4 R4 B4; clear R3 B3; clear k0 k1 k2 k3 k4 k5 k6 k7; obtain ⟨k0, k1, k2, k3, k4, k5, k6, k7⟩ := cells8 (blk_below HK.out (HBx.out.trans (B4.mono HBx.out.size)))))
          obtain ⟨A9, c9, e9, hc9, hC9, -⟩ := RU.read R4
          subst e9
          have hB9 := HBL.out.trans ((HBx.out.trans (B4.mono HBx.out.size)).mono HBL.out.size)
          have HB9 := Lib.hid hB9
          have HK9 := Lib.hid (blk_below HK.out (HBx.out.trans (B4.mono HBx.out.size)))
          have HC69 := Lib.hid (Kd.C_below HC6.out (HBx.out.trans (B4.mono HBx.out.size)))
          have hw9 : ∀ n ∈ ([14, f1, f2, (data.length : Int)] : List Int), 0 ≤ n ∧ n < 18446744073709551616 := by
            intro n hn
            simp only [List.mem_cons, List.not_mem_nil, or_false] at hn
            have q1 := HB1.out; have q2 := HB2.out; have q3 := HB3.out; have q4 := HB4.out
            unfold Encode.bd at *
            omega
          obtain ⟨o, ho⟩ : ∃ o, vput [] [14, f1, f2, (data.length : Int)] = o := ⟨_, rfl⟩
          cases o with
          | none =>
            have hp := putNone (l := [14, f1, f2, (data.length : Int)]) hC9 hc9 hw9 (by simp) ho
            have HP := Lib.hid hp
            have HO := Lib.hid ho
            clear hp ho hw9 hC9 R4 B4 hB9
            refine HP.out.mono ?_
            rintro e w5 ⟨v5, rfl, B5⟩
            go_wp2_with fail
            go_ret2
            have et := HE.out
            simp [numsOf, (show 0 < f2 by omega), withR, HO.out] at et
            subst et
            exact ⟨_, rfl, Kd.R_nil _ _ _ _ _, HB9.out.trans (B5.mono HB9.out.size)⟩
          | some o =>
            have hol : o.length ≤ 0 + 8 * ([14, f1, f2, (data.length : Int)] : List Int).length := vput_len ho
            simp only [List.length_cons, List.length_nil] at hol
            have hp := putSome (l := [14, f1, f2, (data.length : Int)]) hC9 hc9 hw9 (by simp) ho
            have HP := Lib.hid hp
            have HO := Lib.hid ho
            clear hp ho hw9 hC9 R4 B4 hB9
            refine HP.out.mono ?_
            rintro e w5 ⟨v5, rfl, R5, B5⟩
            have k6 := blk_cell (blk_below HK9.out B5) 6
            go_wp2_with (first
              | ((with_reducible refine gate_builtin (b := .append) (xs := #[.tmp 201, .tmp 203]) rfl ?_); refine appB (w0 := _) _ rfl (.tmp 201) (.tmp 203) rfl (A := A6) (ys := data) R5 rfl rfl rfl (Kd.C_below HC69.out B5) B5 B5.size (by omega) ?_; intro v6 w6 R6 B6 G6 N6; clear G6 N6 k6))
            go_ret2
            have et := HE.out
            simp [numsOf, (show 0 < f2 by omega), withR, HO.out] at et
            subst et
            exact ⟨_, rfl, Kd.R_lower R6 HB9.out.size, HB9.out.trans (B6.mono HB9.out.size)⟩
        · go_wp2_with fail
          have hkn := known_calls 8 w1
          rw [show knownB 8 = true from rfl] at hkn
          refine hkn.mono ?_
          clear hkn
          rintro e w2 ⟨rfl, Bx⟩
          have HBx := Lib.hid Bx
          obtain ⟨k0, k1, k2, k3, k4, k5, k6, k7⟩ := cells8 (blk_below HK.out Bx)
          clear Bx
          go_wp2_with (first
            | ((with_reducible refine gate_dst (N := 39) rfl ?_); refine litUL (w0 := w2) w2.heap.size rfl (N := 39) rfl [8] ?hr (Below.refl _ _) (Nat.le_refl _) (by simp) ?_; (case hr => first | (go_simp; done) | (go_simp; rfl)); intro v3 w3 R3 B3; clear k0 k1 k2 k3 k4 k5 k6 k7; obtain ⟨k0, k1, k2, k3, k4, k5, k6, k7⟩ := cells8 (blk_below HK.out (HBx.out.trans (B3.mono HBx.out.size))))
            | ((with_reducible refine gate_dst (N := 168) rfl ?_); refine litUL (w0 := w2) w2.heap.size rfl (N := 168) rfl [10, f1, (data.length : Int)] ?hr B3 B3.size (by simp) ?_; (case hr => first | (go_simp; done) | (go_simp; rfl)); intro v4 w4 R4 B4; clear R3 B3; clear k0 k1 k2 k3 k4 k5 k6 k7; obtain ⟨k0, k1, k2, k3, k4, k5, k6, k7⟩ := cells8 (blk_below HK.out (HBx.out.trans (B4.mono HBx.out.size)))))
          obtain ⟨A9, c9, e9, hc9, hC9, -⟩ := RU.read R4
          subst e9
          have hB9 := HBL.out.trans ((HBx.out.trans (B4.mono HBx.out.size)).mono HBL.out.size)
          have HB9 := Lib.hid hB9
          have HK9 := Lib.hid (blk_below HK.out (HBx.out.trans (B4.mono HBx.out.size)))
          have HC69 := Lib.hid (Kd.C_below HC6.out (HBx.out.trans (B4.mono HBx.out.size)))
          have hw9 : ∀ n ∈ ([10, f1, (data.length : Int)] : List Int), 0 ≤ n ∧ n < 18446744073709551616 := by
            intro n hn
            simp only [List.mem_cons, List.not_mem_nil, or_false] at hn
            have q1 := HB1.out; have q2 := HB2.out; have q3 := HB3.out; have q4 := HB4.out
            unfold Encode.bd at *
            omega
          obtain ⟨o, ho⟩ : ∃ o, vput [] [10, f1, (data.length : Int)] = o := ⟨_, rfl⟩
          cases o with
          | none =>
            have hp := putNone (l := [10, f1, (data.length : Int)]) hC9 hc9 hw9 (by simp) ho
            have HP := Lib.hid hp
            have HO := Lib.hid ho
            clear hp ho hw9 hC9 R4 B4 hB9
            refine HP.out.mono ?_
            rintro e w5 ⟨v5, rfl, B5⟩
            go_wp2_with fail
            go_ret2
            have et := HE.out
            simp [numsOf, (show ¬ (0 < f2) by omega), withR, HO.out] at et
            subst et
            exact ⟨_, rfl, Kd.R_nil _ _ _ _ _, HB9.out.trans (B5.mono HB9.out.size)⟩
          | some o =>
            have hol : o.length ≤ 0 + 8 * ([10, f1, (data.length : Int)] : List Int).length := vput_len ho
            simp only [List.length_cons, List.length_nil] at hol
            have hp := putSome (l := [10, f1, (data.length : Int)]) hC9 hc9 hw9 (by simp) ho
            have HP := Lib.hid hp
            have HO := Lib.hid ho
            clear hp ho hw9 hC9 R4 B4 hB9
            refine HP.out.mono ?_
            rintro e w5 ⟨v5, rfl, R5, B5⟩
            have k6 := blk_cell (blk_below HK9.out B5) 6
            go_wp2_with (first
              | ((with_reducible refine gate_builtin (b := .append) (xs := #[.tmp 201, .tmp 203]) rfl ?_); refine appB (w0 := _) _ rfl (.tmp 201) (.tmp 203) rfl (A := A6) (ys := data) R5 rfl rfl rfl (Kd.C_below HC69.out B5) B5 B5.size (by omega) ?_; intro v6 w6 R6 B6 G6 N6; clear G6 N6 k6))
            go_ret2
            have et := HE.out
            simp [numsOf, (show ¬ (0 < f2) by omega), withR, HO.out] at et
            subst et
            exact ⟨_, rfl, Kd.R_lower R6 HB9.out.size, HB9.out.trans (B6.mono HB9.out.size)⟩
        · go_wp2_with fail
          have hkn := known_calls 8 w1
          rw [show knownB 8 = true from rfl] at hkn
          refine hkn.mono ?_
          clear hkn
          rintro e w2 ⟨rfl, Bx⟩
          have HBx := Lib.hid Bx
          obtain ⟨k0, k1, k2, k3, k4, k5, k6, k7⟩ := cells8 (blk_below HK.out Bx)
          clear Bx
          go_wp2_with (first
            | ((with_reducible refine gate_dst (N := 39) rfl ?_); refine litUL (w0 := w2) w2.heap.size rfl (N := 39) rfl [8] ?hr (Below.refl _ _) (Nat.le_refl _) (by simp) ?_; (case hr => first | (go_simp; done) | (go_simp; rfl)); intro v3 w3 R3 B3; clear k0 k1 k2 k3 k4 k5 k6 k7; obtain ⟨k0, k1, k2, k3, k4, k5, k6, k7⟩ := cells8 (blk_below HK.out (HBx.out.trans (B3.mono HBx.out.size))))
            | ((with_reducible refine gate_dst (N := 163) rfl ?_); refine litUL (w0 := w2) w2.heap.size rfl (N := 163) rfl [15, f1, f2, (data.length : Int)] ?hr B3 B3.size (by simp) ?_; (case hr => first | (go_simp; done) | (go_simp; rfl)); intro v4 w4 R4 B4; clear R3 B3; clear k0 k1 k2 k3 k4 k5 k6 k7; obtain ⟨k0, k1, k2, k3, k4, k5, k6, k7⟩ := cells8 (blk_below HK.out (HBx.out.trans (B4.mono HBx.out.size)))))
          obtain ⟨A9, c9, e9, hc9, hC9, -⟩ := RU.read R4
          subst e9
          have hB9 := HBL.out.trans ((HBx.out.trans (B4.mono HBx.out.size)).mono HBL.out.size)
          have HB9 := Lib.hid hB9
          have HK9 := Lib.hid (blk_below HK.out (HBx.out.trans (B4.mono HBx.out.size)))
          have HC69 := Lib.hid (Kd.C_below HC6.out (HBx.out.trans (B4.mono HBx.out.size)))
          have hw9 : ∀ n ∈ ([15, f1, f2, (data.length : Int)] : List Int), 0 ≤ n ∧ n < 18446744073709551616 := by
            intro n hn
            simp only [List.mem_cons, List.not_mem_nil, or_false] at hn
            have q1 := HB1.out; have q2 := HB2.out; have q3 := HB3.out; have q4 := HB4.out
            unfold Encode.bd at *
            omega
          obtain ⟨o, ho⟩ : ∃ o, vput [] [15, f1, f2, (data.length : Int)] = o := ⟨_, rfl⟩
          cases o with
          | none =>
            have hp := putNone (l := [15, f1, f2, (data.length : Int)]) hC9 hc9 hw9 (by simp) ho
            have HP := Lib.hid hp
            have HO := Lib.hid ho
            clear hp ho hw9 hC9 R4 B4 hB9
            refine HP.out.mono ?_
            rintro e w5 ⟨v5, rfl, B5⟩
            go_wp2_with fail
            go_ret2
            have et := HE.out
            simp [numsOf, (show 0 < f2 by omega), withR, HO.out] at et
            subst et
            exact ⟨_, rfl, Kd.R_nil _ _ _ _ _, HB9.out.trans (B5.mono HB9.out.size)⟩
          | some o =>
            have hol : o.length ≤ 0 + 8 * ([15, f1, f2, (data.length : Int)] : List Int).length := vput_len ho
            simp only [List.length_cons, List.length_nil] at hol
            have hp := putSome (l := [15, f1, f2, (data.length : Int)]) hC9 hc9 hw9 (by simp) ho
            have HP := Lib.hid hp
            have HO := Lib.hid ho
            clear hp ho hw9 hC9 R4 B4 hB9
            refine HP.out.mono ?_
            rintro e w5 ⟨v5, rfl, R5, B5⟩
            have k6 := blk_cell (blk_below HK9.out B5) 6
            go_wp2_with (first
              | ((with_reducible refine gate_builtin (b := .append) (xs := #[.tmp 201, .tmp 203]) rfl ?_); refine appB (w0 := _) _ rfl (.tmp 201) (.tmp 203) rfl (A := A6) (ys := data) R5 rfl rfl rfl (Kd.C_below HC69.out B5) B5 B5.size (by omega) ?_; intro v6 w6 R6 B6 G6 N6; clear G6 N6 k6))
            go_ret2
            have et := HE.out
            simp [numsOf, (show 0 < f2 by omega), withR, HO.out] at et
            subst et
            exact ⟨_, rfl, Kd.R_lower R6 HB9.out.size, HB9.out.trans (B6.mono HB9.out.size)⟩
        · go_wp2_with fail
          have hkn := known_calls 8 w1
          rw [show knownB 8 = true from rfl] at hkn
          refine hkn.mono ?_
          clear hkn
          rintro e w2 ⟨rfl, Bx⟩
          have HBx := Lib.hid Bx
          obtain ⟨k0, k1, k2, k3, k4, k5, k6, k7⟩ := cells8 (blk_below HK.out Bx)
          clear Bx
          go_wp2_with (first
            | ((with_reducible refine gate_dst (N := 39) rfl ?_); refine litUL (w0 := w2) w2.heap.size rfl (N := 39) rfl [8] ?hr (Below.refl _ _) (Nat.le_refl _) (by simp) ?_; (case hr => first | (go_simp; done) | (go_simp; rfl)); intro v3 w3 R3 B3; clear k0 k1 k2 k3 k4 k5 k6 k7; obtain ⟨k0, k1, k2, k3, k4, k5, k6, k7⟩ := cells8 (blk_below HK.out (HBx.out.trans (B3.mono HBx.out.size))))
            | ((with_reducible refine gate_dst (N := 168) rfl ?_); refine litUL (w0 := w2) w2.heap.size rfl (N := 168) rfl [11, f1, (data.length : Int)] ?hr B3 B3.size (by simp) ?_; (case hr => first | (go_simp; done) | (go_simp; rfl)); intro v4 w4 R4 B4; clear R3 B3; clear k0 k1 k2 k3 k4 k5 k6 k7; obtain ⟨k0, k1, k2, k3, k4, k5, k6, k7⟩ := cells8 (blk_below HK.out (HBx.out.trans (B4.mono HBx.out.size)))))
          obtain ⟨A9, c9, e9, hc9, hC9, -⟩ := RU.read R4
          subst e9
          have hB9 := HBL.out.trans ((HBx.out.trans (B4.mono HBx.out.size)).mono HBL.out.size)
          have HB9 := Lib.hid hB9
          have HK9 := Lib.hid (blk_below HK.out (HBx.out.trans (B4.mono HBx.out.size)))
          have HC69 := Lib.hid (Kd.C_below HC6.out (HBx.out.trans (B4.mono HBx.out.size)))
          have hw9 : ∀ n ∈ ([11, f1, (data.length : Int)] : List Int), 0 ≤ n ∧ n < 18446744073709551616 := by
            intro n hn
            simp only [List.mem_cons, List.not_mem_nil, or_false] at hn
            have q1 := HB1.out; have q2 := HB2.out; have q3 := HB3.out; have q4 := HB4.out
            unfold Encode.bd at *
            omega
          obtain ⟨o, ho⟩ : ∃ o, vput [] [11, f1, (data.length : Int)] = o := ⟨_, rfl⟩
          cases o with
          | none =>
            have hp := putNone (l := [11, f1, (data.length : Int)]) hC9 hc9 hw9 (by simp) ho
            have HP := Lib.hid hp
            have HO := Lib.hid ho
            clear hp ho hw9 hC9 R4 B4 hB9
            refine HP.out.mono ?_
            rintro e w5 ⟨v5, rfl, B5⟩
            go_wp2_with fail
            go_ret2
            have et := HE.out
            simp [numsOf, (show ¬ (0 < f2) by omega), withR, HO.out] at et
            subst et
            exact ⟨_, rfl, Kd.R_nil _ _ _ _ _, HB9.out.trans (B5.mono HB9.out.size)⟩
          | some o =>
            have hol : o.length ≤ 0 + 8 * ([11, f1, (data.length : Int)] : List Int).length := vput_len ho
            simp only [List.length_cons, List.length_nil] at hol
            have hp := putSome (l := [11, f1, (data.length : Int)]) hC9 hc9 hw9 (by simp) ho
            have HP := Lib.hid hp
            have HO := Lib.hid ho
            clear hp ho hw9 hC9 R4 B4 hB9
            refine HP.out.mono ?_
            rintro e w5 ⟨v5, rfl, R5, B5⟩
            have k6 := blk_cell (blk_below HK9.out B5) 6
            go_wp2_with (first
              | ((with_reducible refine gate_builtin (b := .append) (xs := #[.tmp 201, .tmp 203]) rfl ?_); refine appB (w0 := _) _ rfl (.tmp 201) (.tmp 203) rfl (A := A6) (ys := data) R5 rfl rfl rfl (Kd.C_below HC69.out B5) B5 B5.size (by omega) ?_; intro v6 w6 R6 B6 G6 N6; clear G6 N6 k6))
            go_ret2
            have et := HE.out
            simp [numsOf, (show ¬ (0 < f2) by omega), withR, HO.out] at et
            subst et
            exact ⟨_, rfl, Kd.R_lower R6 HB9.out.size, HB9.out.trans (B6.mono HB9.out.size)⟩
end Go.Proofs.Ytmccghadgihbpaa.RefFrame

