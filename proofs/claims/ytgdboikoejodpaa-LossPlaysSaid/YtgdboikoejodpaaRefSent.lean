/- The reference's Sent: the walks. -/
import Derived.Test.YtgdboikoejodpaaRefLost
import Derived.Test.YtgdboikoejodpaaFlowShort
namespace Go.Proofs.Ytgdboikoejodpaa.RefSent
open Go Go.RowKit Go.Proofs.YtgdboikoejodpaaW.PrintWords Go.Proofs.YtgdboikoejodpaaW.PrintLast Go.Proofs.YtgdboikoejodpaaW.PrintMore Go.Proofs.Ytgdboikoejodpaa.Keep Go.Proofs.Ytgdboikoejodpaa.Led Go.Proofs.Ytgdboikoejodpaa.Rate Go.Proofs.Ytgdboikoejodpaa.Rd Go.Proofs.Ytgdboikoejodpaa.Timer Go.Proofs.Ytgdboikoejodpaa.LedSp Go.Proofs.Ytgdboikoejodpaa.Drop Go.Proofs.Ytgdboikoejodpaa.In Go.Proofs.Ytgdboikoejodpaa.Split Go.Proofs.Ytgdboikoejodpaa.Clone Go.Proofs.Ytgdboikoejodpaa.Sent Go.Proofs.Ytgdboikoejodpaa.Ref Go.Proofs.Ytgdboikoejodpaa.RefLost
set_option linter.unusedVariables false

set_option maxHeartbeats 1000000 in
set_option maxRecDepth 100000 in
theorem rsent_range {w : World} (q : Nat) (s : Int) (x : S) (hs : -9223372036854775808 ≤ s ∧ s ≤ 9223372036854775807) (hu : uk x) (hb : bad s x) :
    Calls Try.prog 27 #[.pointer (some ⟨q, 0, none⟩), .int .i64 s, argS x] w fun e w' => e = .returned (.int .i64 2) ∧ Below w.heap.size w w' := by
  have B := (Below.refl w.heap.size w).alloc (Nat.le_refl _) (.cells #[.int .u64 x.pn, .int .u64 x.time, .int .u64 x.size, .bool x.asks, .slice x.fa x.fn x.fc] 30)
  have HK := Lib.hid (sent_cells (w := w) x 30)
  have HB := Lib.hid B
  clear B
  obtain ⟨u1, u2, u3, u4, u5, u6⟩ := hu
  obtain ⟨s0, s1⟩ := hs
  by_cases c1 : s < 0
  · go_enter Try.func27, Try.ntmps27
    go_upto_region 1 with fail
    generalize w.alloc (.cells #[.int .u64 x.pn, .int .u64 x.time, .int .u64 x.size, .bool x.asks, .slice x.fa x.fn x.fc] 30) = w1 at HK HB ⊢
    have q0 := blk_cell HK.out 0
    have q1 := blk_cell HK.out 1
    have q2 := blk_cell HK.out 2
    clear hb
    go_wp2_with fail
    go_ret
    exact ⟨rfl, HB.out⟩
  by_cases c2 : s > 2
  · go_enter Try.func27, Try.ntmps27
    go_upto_region 1 with fail
    generalize w.alloc (.cells #[.int .u64 x.pn, .int .u64 x.time, .int .u64 x.size, .bool x.asks, .slice x.fa x.fn x.fc] 30) = w1 at HK HB ⊢
    have q0 := blk_cell HK.out 0
    have q1 := blk_cell HK.out 1
    have q2 := blk_cell HK.out 2
    clear hb
    go_wp2_with fail
    go_ret
    exact ⟨rfl, HB.out⟩
  by_cases c3 : 1099511627776 < x.time
  · go_enter Try.func27, Try.ntmps27
    go_upto_region 1 with fail
    generalize w.alloc (.cells #[.int .u64 x.pn, .int .u64 x.time, .int .u64 x.size, .bool x.asks, .slice x.fa x.fn x.fc] 30) = w1 at HK HB ⊢
    have q0 := blk_cell HK.out 0
    have q1 := blk_cell HK.out 1
    have q2 := blk_cell HK.out 2
    clear hb
    go_wp2_with fail
    go_ret
    exact ⟨rfl, HB.out⟩
  by_cases c4 : 1200 < x.size
  · go_enter Try.func27, Try.ntmps27
    go_upto_region 1 with fail
    generalize w.alloc (.cells #[.int .u64 x.pn, .int .u64 x.time, .int .u64 x.size, .bool x.asks, .slice x.fa x.fn x.fc] 30) = w1 at HK HB ⊢
    have q0 := blk_cell HK.out 0
    have q1 := blk_cell HK.out 1
    have q2 := blk_cell HK.out 2
    clear hb
    go_wp2_with fail
    go_ret
    exact ⟨rfl, HB.out⟩
  have c5 : 4611686018427387903 < x.pn := by unfold bad at hb; omega
  go_enter Try.func27, Try.ntmps27
  go_upto_region 1 with fail
  generalize w.alloc (.cells #[.int .u64 x.pn, .int .u64 x.time, .int .u64 x.size, .bool x.asks, .slice x.fa x.fn x.fc] 30) = w1 at HK HB ⊢
  have q0 := blk_cell HK.out 0
  have q1 := blk_cell HK.out 1
  have q2 := blk_cell HK.out 2
  clear hb
  go_wp2_with fail
  go_ret
  exact ⟨rfl, HB.out⟩
set_option maxHeartbeats 1000000 in
set_option maxRecDepth 100000 in
theorem rsent_order {w : World} {q base : Nat} {L : Lg} {v : Nat → Value} (h : RL w q base L v) (i : Nat) (hi : i < 3) (x : S) (hu : uk x) (hb : ¬ bad (i : Int) x) (hn : x.pn < (L.sp i).next) :
    Calls Try.prog 27 #[.pointer (some ⟨q, 0, none⟩), .int .i64 (i : Int), argS x] w fun e w' => e = .returned (.int .i64 9) ∧ Below w.heap.size w w' := by
  have B := (Below.refl w.heap.size w).alloc (Nat.le_refl _) (.cells #[.int .u64 x.pn, .int .u64 x.time, .int .u64 x.size, .bool x.asks, .slice x.fa x.fn x.fc] 30)
  have HK := Lib.hid (sent_cells (w := w) x 30)
  have HB := Lib.hid B
  clear B
  obtain ⟨u1, u2, u3, u4, u5, u6⟩ := hu
  have i0 : ((i : Int) < 0) = False := eq_false (by omega)
  have i1 : ((i : Int) > 2) = False := eq_false (by omega)
  have i2 : ((i : Int) ≥ 3) = False := eq_false (by omega)
  unfold bad at hb
  have hb1 : ¬ 1099511627776 < x.time := by omega
  have hb2 : ¬ 1200 < x.size := by omega
  have hb3 : ¬ 4611686018427387903 < x.pn := by omega
  clear hb
  have HL := Lib.hid (h.below HB.out)
  obtain ⟨nx, hnx⟩ : ∃ n, (L.sp i).next = n := ⟨_, rfl⟩
  rw [hnx] at hn
  have HNX := Lib.hid hnx
  have hd : decide (x.pn < nx) = true := by simp [hn]
  clear h hnx
  go_enter Try.func27, Try.ntmps27
  go_upto_region 1 with fail
  generalize w.alloc (.cells #[.int .u64 x.pn, .int .u64 x.time, .int .u64 x.size, .bool x.asks, .slice x.fa x.fn x.fc] 30) = w1 at HK HB HL ⊢
  have q0 := blk_cell HK.out 0
  have q1 := blk_cell HK.out 1
  have q2 := blk_cell HK.out 2
  obtain ⟨k0, k1, k2, k3⟩ := HL.out.ways i hi
  rw [HNX.out] at k1
  clear k0 k2 k3
  go_wp2_with fail
  go_quiet (fail)
  go_wp2_with fail
  go_ret
  exact ⟨rfl, ⟨HB.out.os, HB.out.tape, HB.out.output, HB.out.size, HB.out.block⟩⟩
set_option maxHeartbeats 1000000 in
set_option maxRecDepth 100000 in
theorem rsent_full {w : World} {q base : Nat} {L : Lg} {v : Nat → Value} (h : RL w q base L v) (i : Nat) (hi : i < 3) (x : S) (hu : uk x) (hb : ¬ bad (i : Int) x) (hn : (L.sp i).next ≤ x.pn) (hf : 1024 ≤ (L.sp i).list.length) (hm : (L.sp i).list.length ≤ 1024) :
    Calls Try.prog 27 #[.pointer (some ⟨q, 0, none⟩), .int .i64 (i : Int), argS x] w fun e w' => e = .returned (.int .i64 42) ∧ Below w.heap.size w w' := by
  have B := (Below.refl w.heap.size w).alloc (Nat.le_refl _) (.cells #[.int .u64 x.pn, .int .u64 x.time, .int .u64 x.size, .bool x.asks, .slice x.fa x.fn x.fc] 30)
  have HK := Lib.hid (sent_cells (w := w) x 30)
  have HB := Lib.hid B
  clear B
  obtain ⟨u1, u2, u3, u4, u5, u6⟩ := hu
  have i0 : ((i : Int) < 0) = False := eq_false (by omega)
  have i1 : ((i : Int) > 2) = False := eq_false (by omega)
  have i2 : ((i : Int) ≥ 3) = False := eq_false (by omega)
  unfold bad at hb
  have hb1 : ¬ 1099511627776 < x.time := by omega
  have hb2 : ¬ 1200 < x.size := by omega
  have hb3 : ¬ 4611686018427387903 < x.pn := by omega
  clear hb
  have HL := Lib.hid (h.below HB.out)
  obtain ⟨nx, hnx⟩ : ∃ n, (L.sp i).next = n := ⟨_, rfl⟩
  rw [hnx] at hn
  have HNX := Lib.hid hnx
  have hd : decide (x.pn < nx) = false := by simp; omega
  obtain ⟨A, c, ev, -⟩ := RE_slice (h.row i hi)
  obtain ⟨n, hn2⟩ : ∃ n, (L.sp i).list.length = n := ⟨_, rfl⟩
  rw [hn2] at ev hf hm
  have HEV := Lib.hid ev
  have en : n = 1024 := by omega
  subst en
  clear h hnx ev hn2
  go_enter Try.func27, Try.ntmps27
  go_upto_region 1 with fail
  generalize w.alloc (.cells #[.int .u64 x.pn, .int .u64 x.time, .int .u64 x.size, .bool x.asks, .slice x.fa x.fn x.fc] 30) = w1 at HK HB HL ⊢
  have q0 := blk_cell HK.out 0
  have q1 := blk_cell HK.out 1
  have q2 := blk_cell HK.out 2
  obtain ⟨k0, k1, k2, k3⟩ := HL.out.ways i hi
  rw [HNX.out] at k1
  rw [HEV.out] at k0
  clear k2 k3
  go_wp2_with fail
  go_quiet (fail)
  go_wp2_with fail
  go_ret
  exact ⟨rfl, ⟨HB.out.os, HB.out.tape, HB.out.output, HB.out.size, HB.out.block⟩⟩
set_option maxHeartbeats 1000000 in
set_option maxRecDepth 100000 in
theorem rsent_quiet {w : World} {q base : Nat} {L : Lg} {v : Nat → Value} (h : RL w q base L v) (i : Nat) (hi : i < 3) (x : S) (hu : uk x) (hb : ¬ bad (i : Int) x) (hn : (L.sp i).next ≤ x.pn) (hf : (L.sp i).list.length < 1024) (ha : x.asks = false) :
    Calls Try.prog 27 #[.pointer (some ⟨q, 0, none⟩), .int .i64 (i : Int), argS x] w fun e w' => e = .returned (.int .i64 0) ∧ RL w' q base (setSp L i { L.sp i with next := x.pn + 1 }) v ∧ Kp q w w' := by
  have B := (Below.refl w.heap.size w).alloc (Nat.le_refl _) (.cells #[.int .u64 x.pn, .int .u64 x.time, .int .u64 x.size, .bool x.asks, .slice x.fa x.fn x.fc] 30)
  have HK := Lib.hid (sent_cells (w := w) x 30)
  have HB := Lib.hid B
  clear B
  obtain ⟨u1, u2, u3, u4, u5, u6⟩ := hu
  have i0 : ((i : Int) < 0) = False := eq_false (by omega)
  have i1 : ((i : Int) > 2) = False := eq_false (by omega)
  have i2 : ((i : Int) ≥ 3) = False := eq_false (by omega)
  unfold bad at hb
  have hb1 : ¬ 1099511627776 < x.time := by omega
  have hb2 : ¬ 1200 < x.size := by omega
  have hb3 : ¬ 4611686018427387903 < x.pn := by omega
  clear hb
  have HL := Lib.hid (h.below HB.out)
  obtain ⟨nx, hnx⟩ : ∃ n, (L.sp i).next = n := ⟨_, rfl⟩
  rw [hnx] at hn
  have HNX := Lib.hid hnx
  have hd : decide (x.pn < nx) = false := by simp; omega
  obtain ⟨A, c, ev, -⟩ := RE_slice (h.row i hi)
  obtain ⟨n, hn2⟩ : ∃ n, (L.sp i).list.length = n := ⟨_, rfl⟩
  rw [hn2] at ev hf
  have HEV := Lib.hid ev
  have hpl := blk_lt h.blk
  have hne : w.heap.size ≠ q := by omega
  have hwp : IntKind.u64.wrap (x.pn + 1) = x.pn + 1 := by rw [IntKind.wrap_u64]; omega
  have HA := Lib.hid ha
  clear h hnx ev hn2 ha
  go_enter Try.func27, Try.ntmps27
  go_upto_region 1 with fail
  generalize w.alloc (.cells #[.int .u64 x.pn, .int .u64 x.time, .int .u64 x.size, .bool x.asks, .slice x.fa x.fn x.fc] 30) = w1 at HK HB HL ⊢
  have q0 := blk_cell HK.out 0
  have q1 := blk_cell HK.out 1
  have q2 := blk_cell HK.out 2
  obtain ⟨k0, k1, k2, k3⟩ := HL.out.ways i hi
  have q3 := blk_cell HK.out 3
  have z1 := HL.out.fz (i * 4 + 1)
  rw [HNX.out] at k1
  rw [HEV.out] at k0
  rw [HA.out] at q3
  clear k2 k3
  go_wp2_with fail
  go_quiet (fail)
  go_wp2_with fail
  go_ret
  exact ⟨rfl, (HL.out.drewN _).next i hi (x.pn + 1), ((Kp.of_below HB.out).drewN _).set _ _⟩

theorem RE_void {W : World} {B b : Nat} (h : W.heap[b]? = some (.cells #[] 30 (0, 0))) (hb : B ≤ b) : RE W B (.slice (some ⟨b, 0, none⟩) 0 0) [] :=
  ⟨fun _ _ => trivial, [], ⟨by simp, .inr ⟨b, 0, #[], rfl, hb, h, Nat.zero_le _, by decide, by simp, by simp⟩⟩, Reps.none _ _⟩
theorem C_boxE {W : World} {b : Nat} (y : S) (h : W.heap[b]? = some (.cells #[.int .u64 y.pn, .int .u64 y.time, .int .u64 y.size, .bool y.asks, .slice y.fa y.fn y.fc] 30 (0, 0))) : Kd.C kE W (some ⟨b, 0, none⟩) 1 [y] := by
  refine ⟨rfl, by decide, fun _ => ⟨_, rfl, fun j q hj => ?_⟩⟩
  cases j with
  | succ j => simp at hj
  | zero =>
    simp at hj
    subst hj
    refine ⟨eCells y y.fa y.fc, rfl, ⟨_, _, rfl⟩, fun k u hu => ?_⟩
    have hk : k < 5 := (List.getElem?_eq_some_iff.1 hu).1
    have : k = 0 ∨ k = 1 ∨ k = 2 ∨ k = 3 ∨ k = 4 := by omega
    rcases this with rfl | rfl | rfl | rfl | rfl <;> (simp [eCells] at hu; subst hu; exact blk_cell h _)
section
variable {ops : Array Oper} {o : Oper} {a : Act} {Q : Exit → Act → World → Prop} {Kc : Act → World → Prop}
theorem appEs_step {W w0 : World} (base : Nat) (hw : Region.wanted o (yielded ops a.tmps) = true) (s x : Operand) (ho : o.op = .call { callee := .builtin .append, args := #[s, x], argTypes := #[31, 31] })
    {v : Value} {xs ys : List S} {A : Option Addr} {n c : Nat} (HO : RE W base v xs) (hs : a.eval s = v) (hx : a.eval x = .slice A n c) (HR : Kd.C kE W A n ys) (hB : Below base w0 W) (hbase : base ≤ W.heap.size)
    (hl : xs.length + n ≤ 1000000)
    (h : ∀ v1 w1, RE w1 base v1 (xs ++ ys) → Below base w0 w1 → W.grownBy w1 v.ownBlock → (v1.ownBlock = v.ownBlock ∨ ∃ b, v1.ownBlock = some b ∧ W.heap.size ≤ b) → Kc (a.put o.dst v1) w1) : if Region.wanted o (yielded ops a.tmps) = true then Oper.wp Try.prog o a W Kc Q else Kc (a.put o.dst undef) W :=
  Kd.R_append_rows_step kE (w0 := w0) base hw s x 31 30 (.agg #[.int .u64 0, .int .u64 0, .int .u64 0, .bool false, .slice none 0 0]) 56 ho Try.underlying31 infoS rfl (by decide) (by decide) v xs ys A n c (fun _ => True) (fun _ => False) hs hx HO HR (fun _ _ hh => hh) (fun _ hk => hk.elim) (fun _ _ => trivial) hB hbase (by omega) h
end

set_option maxHeartbeats 4000000 in
set_option maxRecDepth 100000 in
theorem rsent_asks {w : World} {q base : Nat} {L : Lg} {v : Nat → Value} (h : RL w q base L v) (i : Nat) (hi : i < 3) (x : S) (hu : uk x) (hb : ¬ bad (i : Int) x) (hn : (L.sp i).next ≤ x.pn) (hf : (L.sp i).list.length < 1024) (ha : x.asks = true) (hla : 0 ≤ L.last ∧ L.last ≤ 1099511627776) :
    Calls Try.prog 27 #[.pointer (some ⟨q, 0, none⟩), .int .i64 (i : Int), argS x] w fun e w' => e = .returned (.int .i64 0) ∧ ∃ v',
      RL w' q base { setSp L i { L.sp i with list := (L.sp i).list ++ [x], next := x.pn + 1 } with last := mx L.last x.time } (setV v i v') ∧ (∀ b, v'.ownBlock = some b → w.heap.size ≤ b) ∧ Kp q w w' := by
  have B := (Below.refl w.heap.size w).alloc (Nat.le_refl _) (.cells #[.int .u64 x.pn, .int .u64 x.time, .int .u64 x.size, .bool x.asks, .slice x.fa x.fn x.fc] 30)
  have HK := Lib.hid (sent_cells (w := w) x 30)
  have HB := Lib.hid B
  clear B
  obtain ⟨u1, u2, u3, u4, u5, u6⟩ := hu
  have i0 : ((i : Int) < 0) = False := eq_false (by omega)
  have i1 : ((i : Int) > 2) = False := eq_false (by omega)
  have i2 : ((i : Int) ≥ 3) = False := eq_false (by omega)
  unfold bad at hb
  have hb1 : ¬ 1099511627776 < x.time := by omega
  have hb2 : ¬ 1200 < x.size := by omega
  have hb3 : ¬ 4611686018427387903 < x.pn := by omega
  clear hb
  have HL := Lib.hid (h.below HB.out)
  obtain ⟨nx, hnx⟩ : ∃ n, (L.sp i).next = n := ⟨_, rfl⟩
  rw [hnx] at hn
  have HNX := Lib.hid hnx
  have hd : decide (x.pn < nx) = false := by simp; omega
  obtain ⟨A0, c0, ev, -⟩ := RE_slice (h.row i hi)
  obtain ⟨l0, hl0⟩ : ∃ l, (L.sp i).list = l := ⟨_, rfl⟩
  rw [hl0] at ev hf
  have HEV := Lib.hid ev
  have HL0 := Lib.hid hl0
  have hpl := blk_lt h.blk
  have hne : w.heap.size ≠ q := by omega
  have hwp : IntKind.u64.wrap (x.pn + 1) = x.pn + 1 := by rw [IntKind.wrap_u64]; omega
  have HA := Lib.hid ha
  have HBP := Lib.hid h.hp
  clear h hnx ev hl0 ha
  go_enter Try.func27, Try.ntmps27
  go_upto_region 1 with fail
  generalize w.alloc (.cells #[.int .u64 x.pn, .int .u64 x.time, .int .u64 x.size, .bool x.asks, .slice x.fa x.fn x.fc] 30) = w1 at HK HB HL ⊢
  have q0 := blk_cell HK.out 0
  have q1 := blk_cell HK.out 1
  have q2 := blk_cell HK.out 2
  obtain ⟨k0, k1, k2, k3⟩ := HL.out.ways i hi
  have q3 := blk_cell HK.out 3
  have z1 := HL.out.fz (i * 4 + 1)
  rw [HNX.out] at k1
  rw [HEV.out] at k0
  rw [HA.out] at q3
  clear k2 k3
  go_wp2_with fail
  go_quiet (fail)
  go_upto_region 10 with fail
  have HL5 := Lib.hid ((HL.out.drewN nq).next i hi (x.pn + 1))
  have HB5 := Lib.hid ((Below.heap_setCell (w1.drewN nq) ⟨q, i * 4 + 1, none⟩ (.int .u64 (x.pn + 1)) w.heap.size (fun e => hne e)).trans HK.out)
  have HK5 := Lib.hid (((Kp.of_below (p := q) HB.out).drewN nq).set (i * 4 + 1) (.int .u64 (x.pn + 1)))
  have HNE : Hid (w.heap.size < ((w1.drewN nq).setCell ⟨q, i * 4 + 1, none⟩ (.int .u64 (x.pn + 1))).heap.size) := Lib.hid (blk_lt HB5.out)
  generalize (w1.drewN nq).setCell ⟨q, i * 4 + 1, none⟩ (.int .u64 (x.pn + 1)) = w5 at HL5 HB5 HK5 HNE ⊢
  clear q0 q1 q2 q3 z1 k0 k1 HL HK HB hd
  obtain ⟨L5, hL5⟩ : ∃ L5, setSp L i { L.sp i with next := x.pn + 1 } = L5 := ⟨_, rfl⟩
  rw [hL5] at HL5
  have HRW : Hid (Kd.C kE w5 A0 l0.length l0) := Lib.hid (by have := HL5.out.row i hi; rw [HEV.out, ← hL5, setSp_same] at this; simp only [HL0.out] at this; exact RE_slice' this)
  have HC7 : Hid (∀ W, Below w5.heap.size w5 W → W.cell? ⟨q, i * 4, none⟩ = some (.slice A0 l0.length c0)) := Lib.hid (fun W hG => by
    have := (HL5.out.ways i hi).1
    rw [HEV.out] at this
    rw [World.cell?_of_block (hG.block q (blk_lt HL5.out.blk))]
    exact this)
  have HBS : Hid (base ≤ w5.heap.size) := Lib.hid (Nat.le_trans HL5.out.hp (Nat.le_of_lt (blk_lt HL5.out.blk)))
  have HLN : Hid (l0.length + 1 ≤ 1000000) := Lib.hid (by omega)
  have HL5e := Lib.hid hL5
  clear hL5
  refine Flow.wp_region_lit_last2 [55, 56, 57, 58, 59, 60, 61, 62, 63, 64, 65, 66] (by kernel_rfl) (fun jj W v => match jj with | 0 => v = .pointer (some ⟨q, i * 4, none⟩) | 1 => ∃ b, v = .slice (some ⟨b, 0, none⟩) 0 0 ∧ w5.heap.size ≤ b ∧ W.heap[b]? = some (.cells #[] 30 (0, 0)) | 2 => v = .pointer (some ⟨q, i * 4, none⟩) | 3 => v = .pointer (some ⟨q, i * 4, none⟩) | 4 => v = .pointer (some ⟨q, i * 4, none⟩) | 5 => v = .slice A0 l0.length c0 | 6 => RE W w5.heap.size v l0 | 7 => v = argS x | 8 => ∃ b, v = .slice (some ⟨b, 0, none⟩) 1 1 ∧ w5.heap.size ≤ b ∧ W.heap[b]? = some (.cells #[.int .u64 x.pn, .int .u64 x.time, .int .u64 x.size, .bool x.asks, .slice x.fa x.fn x.fc] 30 (0, 0)) | 9 => RE W w5.heap.size v (l0 ++ [x]) | 10 => v = .pointer (some ⟨q, i * 4, none⟩) | 11 => v = .pointer (some ⟨q, i * 4, none⟩) | 12 => True | _ => True) (fun W => Below w5.heap.size w5 W) 12 (fun W => ∃ v8, RL W q base (setSp L5 i { L5.sp i with list := l0 ++ [x] }) (setV v i v8) ∧ (∀ b, v8.ownBlock = some b → w5.heap.size ≤ b) ∧ Kp q w5 W) 13 (fun W => True) (fun jj kk => match jj, kk with | 1, 6 => true | 1, 9 => true | 6, 9 => true | 8, 9 => true | _, _ => false) (by kernel_rfl) (by kernel_rfl) (by kernel_rfl) (by kernel_rfl) (by kernel_rfl) (by decide) ((Below.refl w5.heap.size w5).drew) (trivial) ?_ ?_ ?_
  · intro i o ho hz a W hG hL hk hdep
    have hi : i < 13 := (Array.getElem?_eq_some_iff.1 ho).1
    have hz : i ≠ 12 := hz
    rcases (by omega : i = 0 ∨ i = 1 ∨ i = 2 ∨ i = 3 ∨ i = 4 ∨ i = 5 ∨ i = 6 ∨ i = 7 ∨ i = 8 ∨ i = 9 ∨ i = 10 ∨ i = 11) with rfl | rfl | rfl | rfl | rfl | rfl | rfl | rfl | rfl | rfl | rfl | rfl
    · obtain rfl := Option.some.inj ho
      have e7 : a.tmps.getD 7 undef = .pointer (some ⟨q, i * 4, none⟩) := hk 7 (by kernel_rfl)
      clear hL
      refine Flow.op_want rfl rfl (fun K hK => ?_)
      clear hdep hk ho
      go_simp
      exact hK _ _ ⟨_, rfl, hG, rfl, fun _ _ _ h => h, fun _ h => h⟩
    · obtain rfl := Option.some.inj ho
      refine Flow.op_want rfl rfl (fun K hK => ?_)
      clear hdep hk ho hL
      go_simp
      refine hK _ _ ⟨_, rfl, hG.alloc hG.size _, ⟨W.heap.size, rfl, hG.size, heap_alloc_new _ _⟩, ?_, fun _ h => h⟩
      intro j u hj
      split <;> intro h <;> first | exact h | exact absurd rfl hj.1.1 | (obtain ⟨b, e, h1, h2⟩ := h; exact ⟨b, e, h1, blk_below h2 (below_alloc (Below.refl _ _) _)⟩) | (exact ⟨Kd.R_alloc h.1 _, h.2⟩) | exact Kd.R_alloc h _
    · obtain rfl := Option.some.inj ho
      have e7 : a.tmps.getD 7 undef = .pointer (some ⟨q, i * 4, none⟩) := hk 7 (by kernel_rfl)
      clear hL
      refine Flow.op_want rfl rfl (fun K hK => ?_)
      clear hdep hk ho
      go_simp
      exact hK _ _ ⟨_, rfl, hG, rfl, fun _ _ _ h => h, fun _ h => h⟩
    · obtain rfl := Option.some.inj ho
      have e57 : a.tmps.getD 57 undef = .pointer (some ⟨q, i * 4, none⟩) := hdep 2 57 (by kernel_rfl) (by kernel_rfl)
      clear hL
      refine Flow.op_want rfl rfl (fun K hK => ?_)
      clear hdep hk ho
      go_simp
      exact hK _ _ ⟨_, rfl, hG, rfl, fun _ _ _ h => h, fun _ h => h⟩
    · obtain rfl := Option.some.inj ho
      have e58 : a.tmps.getD 58 undef = .pointer (some ⟨q, i * 4, none⟩) := hdep 3 58 (by kernel_rfl) (by kernel_rfl)
      clear hL
      refine Flow.op_want rfl rfl (fun K hK => ?_)
      clear hdep hk ho
      go_simp
      exact hK _ _ ⟨_, rfl, hG, rfl, fun _ _ _ h => h, fun _ h => h⟩
    · obtain rfl := Option.some.inj ho
      have e59 : a.tmps.getD 59 undef = .pointer (some ⟨q, i * 4, none⟩) := hdep 4 59 (by kernel_rfl) (by kernel_rfl)
      have c := HC7.out W hG
      clear hL
      refine Flow.op_want rfl rfl (fun K hK => ?_)
      clear hdep hk ho
      go_simp
      exact hK _ _ ⟨_, rfl, hG, rfl, fun _ _ _ h => h, fun _ h => h⟩
    · obtain rfl := Option.some.inj ho
      have e56 : (fun (W : World) (v : Value) => ∃ b, v = .slice (some ⟨b, 0, none⟩) 0 0 ∧ w5.heap.size ≤ b ∧ W.heap[b]? = some (.cells #[] 30 (0, 0))) W (a.tmps.getD 56 undef) := hdep 1 56 (by kernel_rfl) (by kernel_rfl)
      have e60 : a.tmps.getD 60 undef = .slice A0 l0.length c0 := hdep 5 60 (by kernel_rfl) (by kernel_rfl)
      obtain ⟨b, e56, hb1, hb2⟩ := e56
      refine Flow.op_if rfl (fun K hK => appEs_step (w0 := W) w5.heap.size rfl (.tmp 56) (.tmp 60) rfl (RE_void hb2 hb1) e56 e60 (Kd.C_below HRW.out hG) (Below.refl _ _) hG.size (by have := HLN.out; simp; omega) ?_)
      intro v1 W1 R1 B1 G1 N1
      have R1 : RE W1 w5.heap.size v1 l0 := by simpa using R1
      refine hK _ _ ⟨v1, rfl, hG.trans B1, R1, ?_, fun _ h => h⟩
      intro j u hj
      split <;> intro h <;> first | exact h | exact absurd rfl hj.1.1 | exact absurd hj.2 (by decide) | exact absurd hj.1.2 (by decide +kernel) | (obtain ⟨b', e, h1, h2⟩ := h; exact ⟨b', e, h1, (G1.block b' (blk_lt h2) (fun e2 => by simp only [Value.ownBlock, Option.some.injEq] at e2; subst e2; rw [hb2] at h2; injection h2 with h2; injection h2 with h2; simp at h2)).trans h2⟩)
    · obtain rfl := Option.some.inj ho
      have e5 : a.tmps.getD 5 undef = .pointer (some ⟨w.heap.size, 0, none⟩) := hk 5 (by kernel_rfl)
      have hb9 := (hG.block w.heap.size HNE.out).trans HB5.out
      have c0 := blk_cell hb9 0
      have c1 := blk_cell hb9 1
      have c2 := blk_cell hb9 2
      have c3 := blk_cell hb9 3
      have c4 := blk_cell hb9 4
      clear hL
      refine Flow.op_want rfl rfl (fun K hK => ?_)
      clear hdep hk ho
      go_simp
      exact hK _ _ ⟨_, rfl, hG, rfl, fun _ _ _ h => h, fun _ h => h⟩
    · obtain rfl := Option.some.inj ho
      have e62 : a.tmps.getD 62 undef = argS x := hdep 7 62 (by kernel_rfl) (by kernel_rfl)
      rw [Array.getD_eq_getD_getElem?] at e62
      refine Flow.op_want rfl rfl (fun K hK => ?_)
      clear hdep hk ho hL
      go_simp
      refine hK _ _ ⟨_, rfl, hG.alloc hG.size _, ⟨W.heap.size, rfl, hG.size, heap_alloc_new _ _⟩, ?_, fun _ h => h⟩
      intro j u hj
      split <;> intro h <;> first | exact h | exact absurd rfl hj.1.1 | (obtain ⟨b, e, h1, h2⟩ := h; exact ⟨b, e, h1, blk_below h2 (below_alloc (Below.refl _ _) _)⟩) | (exact ⟨Kd.R_alloc h.1 _, h.2⟩) | exact Kd.R_alloc h _
    · obtain rfl := Option.some.inj ho
      have e61 : (fun (W : World) (v : Value) => RE W w5.heap.size v l0) W (a.tmps.getD 61 undef) := hdep 6 61 (by kernel_rfl) (by kernel_rfl)
      have e63 : (fun (W : World) (v : Value) => ∃ b, v = .slice (some ⟨b, 0, none⟩) 1 1 ∧ w5.heap.size ≤ b ∧ W.heap[b]? = some (.cells #[.int .u64 x.pn, .int .u64 x.time, .int .u64 x.size, .bool x.asks, .slice x.fa x.fn x.fc] 30 (0, 0))) W (a.tmps.getD 63 undef) := hdep 8 63 (by kernel_rfl) (by kernel_rfl)
      obtain ⟨b, e63, hb1, hb2⟩ := e63
      refine Flow.op_if rfl (fun K hK => appEs_step (w0 := W) w5.heap.size rfl (.tmp 61) (.tmp 63) rfl (ys := [x]) e61 rfl e63 (C_boxE x hb2) (Below.refl _ _) hG.size (by have := HLN.out; simp; omega) ?_)
      intro v1 W1 R1 B1 G1 N1
      refine hK _ _ ⟨v1, rfl, hG.trans B1, R1, ?_, fun _ h => h⟩
      intro j u hj
      split <;> intro h <;> first | exact h | exact absurd rfl hj.1.1 | exact absurd hj.2 (by decide)
    · obtain rfl := Option.some.inj ho
      have e55 : a.tmps.getD 55 undef = .pointer (some ⟨q, i * 4, none⟩) := hdep 0 55 (by kernel_rfl) (by kernel_rfl)
      clear hL
      refine Flow.op_want rfl rfl (fun K hK => ?_)
      clear hdep hk ho
      go_simp
      exact hK _ _ ⟨_, rfl, hG, rfl, fun _ _ _ h => h, fun _ h => h⟩
    · obtain rfl := Option.some.inj ho
      have e65 : a.tmps.getD 65 undef = .pointer (some ⟨q, i * 4, none⟩) := hdep 10 65 (by kernel_rfl) (by kernel_rfl)
      clear hL
      refine Flow.op_want rfl rfl (fun K hK => ?_)
      clear hdep hk ho
      go_simp
      exact hK _ _ ⟨_, rfl, hG, rfl, fun _ _ _ h => h, fun _ h => h⟩
  · intro o ho a W hG hk hdep
    obtain rfl := Option.some.inj ho
    have e64 : (fun (W : World) (v : Value) => RE W w5.heap.size v (l0 ++ [x])) W (a.tmps.getD 64 undef) := hdep 9 64 (by kernel_rfl) (by kernel_rfl)
    have e66 : a.tmps.getD 66 undef = .pointer (some ⟨q, i * 4, none⟩) := hdep 11 66 (by kernel_rfl) (by kernel_rfl)
    refine Flow.op_want rfl rfl (fun K hK => ?_)
    have fz := blk_frozen ((hG.block q (blk_lt HL5.out.blk)).trans HL5.out.blk) (i * 4)
    have c := HC7.out W hG
    obtain ⟨A8, c8, e8, -⟩ := RE_slice e64
    rw [e8] at e64
    simp only [List.length_append, List.length_cons, List.length_nil, Nat.zero_add] at e64 e8
    clear hdep hk ho
    rw [Array.getD_eq_getD_getElem?] at e8
    go_simp
    have hle := HBS.out
    refine hK _ _ ⟨undef, rfl, _, (HL5.out.below hG).lay i hi _ _ (Kd.R_lower e64 hle) (fun e => by have h1 := (RE_bound e64 q e).1; have := blk_lt HL5.out.blk; omega), fun b hb => (RE_bound e64 b hb).1, (Kp.of_below hG).set _ _⟩
  · intro us w9 hE9
    simp only [Flow.lay, List.set_cons_zero, List.set_cons_succ]
    obtain ⟨v8, L8, N8, K8⟩ := hE9
    have hb9 := K8.blk HB5.out hne
    have HBA := Lib.hid hb9
    have HL8 := Lib.hid L8
    have HN8 := Lib.hid N8
    have HK8 := Lib.hid K8
    clear L8 N8 K8 hb9
    have q1 := blk_cell HBA.out 1
    obtain ⟨-, -, -, -, -, -, k6, -⟩ := HL8.out.rate
    have hls : (setSp L5 i { L5.sp i with list := l0 ++ [x] }).last = L.last := by rw [← HL5e.out]; rfl
    simp only [hls] at k6
    obtain ⟨l1, l2⟩ := hla
    have EQ : ∀ m W, m = mx L.last x.time → RL W q base { setSp L5 i { L5.sp i with list := l0 ++ [x] } with last := m } (setV v i v8) → RL W q base { setSp L i { L.sp i with list := (L.sp i).list ++ [x], next := x.pn + 1 } with last := mx L.last x.time } (setV v i v8) := by
      intro m W hm hW
      subst hm
      have e2 : ∀ La Lb : Lg, La = Lb → RL W q base La (setV v i v8) → RL W q base Lb (setV v i v8) := fun _ _ e h => e ▸ h
      refine e2 _ _ ?_ hW
      rw [← HL5e.out, HL0.out]
      simp only [setSp_setSp, setSp_same]
    have HEQ := Lib.hid EQ
    have HNN : Hid (∀ b, v8.ownBlock = some b → w.heap.size ≤ b) := Lib.hid (fun b hb => Nat.le_trans HK5.out.size (HN8.out b hb))
    clear EQ
    by_cases hm : x.time > L.last
    · have hd : decide (x.time > L.last) = true := by simp; omega
      go_upto_region 11 with fail
      go_quiet (fail)
      have HL9 := Lib.hid (HL8.out.drewN nq)
      have HK9 := Lib.hid ((HK5.out.trans HK8.out).drewN nq)
      have HBB := Lib.hid (blk_drewN HBA.out nq)
      generalize w9.drewN nq = w10 at HL9 HK9 HBB ⊢
      clear q1 k6
      have q1 := blk_cell HBB.out 1
      obtain ⟨-, -, -, -, -, -, k6, -⟩ := HL9.out.rate
      have z6 := HL9.out.fz 18
      go_wp2_with fail
      go_ret
      exact ⟨rfl, v8, HEQ.out x.time _ (by unfold mx; rw [if_pos (by omega)]) (HL9.out.put 18 (.int .u64 x.time) rfl (fun _ _ => rfl)), HNN.out, HK9.out.set 18 _⟩
    · have hd : decide (x.time > L.last) = false := by simp; omega
      go_upto_region 11 with fail
      go_quiet (fail)
      go_wp2_with fail
      go_ret
      exact ⟨rfl, v8, HEQ.out L.last _ (by unfold mx; rw [if_neg (by omega)]) ((HL8.out.drewN nq).as_ (by rw [← hls]) (fun _ _ => rfl)), HNN.out, (HK5.out.trans HK8.out).drewN nq⟩
end Go.Proofs.Ytgdboikoejodpaa.RefSent
