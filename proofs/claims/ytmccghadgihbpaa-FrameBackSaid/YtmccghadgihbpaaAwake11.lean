/- The fixed facts ahead of the statements of chapter 11 hold. -/
import Derived.Test.YtmccghadgihbpaaFrames
import Derived.Lib.SmallJoins
namespace Go.Proofs.Ytmccghadgihbpaa.Awake11
open Go Go.RowKit Go.Proofs.Ytmccghadgihbpaa.PFrameBack Go.Proofs.YtmccghadgihbpaaW.PrintWords Go.Proofs.YtmccghadgihbpaaW.PrintLast Go.Proofs.YtmccghadgihbpaaW.PrintMore Go.Proofs.Ytmccghadgihbpaa.Keep Go.Proofs.Ytmccghadgihbpaa.Mem Go.Proofs.Ytmccghadgihbpaa.VPut Go.Proofs.Ytmccghadgihbpaa.With Go.Proofs.Ytmccghadgihbpaa.Spans Go.Proofs.Ytmccghadgihbpaa.Encode Go.Proofs.Ytmccghadgihbpaa.EncAck Go.Proofs.Ytmccghadgihbpaa.Frames
set_option linter.unusedVariables false

/-- A block of numbers, whatever its mark, is read as they are. -/
theorem C_mark {k : IntKind} {w : World} {b : Nat} {e : TypeId} {fr : Nat × Nat} (l : List Int) (hl : l.length ≤ 9223372036854775807) (h : w.heap[b]? = some (.cells (l.map (Value.int k)).toArray e fr)) : Kd.C (Kd.int k) w (some ⟨b, 0, none⟩) l.length l := by
  refine ⟨rfl, hl, fun _ => ⟨_, rfl, fun j p hj => ⟨[Value.int k p], rfl, rfl, fun i u hu => ?_⟩⟩⟩
  have hi : i = 0 := by
    cases i with
    | zero => rfl
    | succ i => simp at hu
  subst hi
  have hu : Value.int k p = u := by simpa using hu
  subst hu
  have ea : (⟨b, 0, none⟩ : Addr).add (j * (Kd.int k).sz + 0) = ⟨b, j, none⟩ := by
    rw [show j * (Kd.int k).sz + 0 = j from Nat.mul_one j, add_plain]
  rw [ea, Go.Joins.cell_of_block h]
  simp [hj]

/-- The cells of spans, one behind the other. -/
def flat84 (l : List S84) : List Value := l.flatMap fun s => [.int .u64 s.f0, .int .u64 s.f1]
theorem flat84_len (l : List S84) : (flat84 l).length = 2 * l.length := by
  induction l with
  | nil => rfl
  | cons s l ih => simp only [flat84, List.flatMap_cons, List.length_append, List.length_cons, List.length_nil] at *; omega
theorem flat84_get : ∀ (l : List S84) (j : Nat) (s : S84), l[j]? = some s → (flat84 l)[j * 2]? = some (.int .u64 s.f0) ∧ (flat84 l)[j * 2 + 1]? = some (.int .u64 s.f1)
  | [], j, s, h => by simp at h
  | x :: l, 0, s, h => by
    simp at h
    subst h
    exact ⟨rfl, rfl⟩
  | x :: l, j + 1, s, h => by
    have h2 := flat84_get l j s (by simpa using h)
    have e : flat84 (x :: l) = .int .u64 x.f0 :: .int .u64 x.f1 :: flat84 l := rfl
    rw [e]
    rw [show (j + 1) * 2 = j * 2 + 1 + 1 by omega, show j * 2 + 1 + 1 + 1 = (j * 2 + 1) + 1 + 1 by omega]
    simpa using h2
theorem C_blk84 {w : World} {b : Nat} {e : TypeId} (l : List S84) (hl : l.length ≤ 9223372036854775807) (h : w.heap[b]? = some (.cells (flat84 l).toArray e (0, 0))) : Kd.C k84 w (some ⟨b, 0, none⟩) l.length l := by
  refine ⟨rfl, hl, fun _ => ⟨_, rfl, fun j p hj => ⟨[.int .u64 p.f0, .int .u64 p.f1], rfl, k84_mk w p, fun i u hu => ?_⟩⟩⟩
  obtain ⟨h0, h1⟩ := flat84_get l j p hj
  have hcell : ∀ i, w.cell? ⟨b, i, none⟩ = (flat84 l)[i]? := fun i => by rw [Go.Joins.cell_of_block h]; simp
  have hsz : k84.sz = 2 := rfl
  rw [hsz]
  cases i with
  | zero =>
    have hu : Value.int .u64 p.f0 = u := by simpa using hu
    subst hu
    rw [Nat.add_zero, add_plain, hcell, h0]
  | succ i =>
    cases i with
    | zero =>
      have hu : Value.int .u64 p.f1 = u := by simpa using hu
      subst hu
      rw [Nat.zero_add, add_plain, hcell, h1]
    | succ i => simp at hu

set_option maxHeartbeats 2000000 in
set_option maxRecDepth 100000 in
theorem awake (w : World) : Calls Try.prog 36 #[] w fun e w' => e = .returned (.bool true) ∧ Below w.heap.size w w' := by
  have hcv := Lib.run_convert_bytes_const (P := Try.prog) w 30 5 #[.int .u8 97, .int .u8 98] 2 2 Try.underlying30 Try.underlying5
  go_enter Try.func36, Try.ntmps36
  go_wp2_with fail
  have B0 := (Below.refl w.heap.size w).alloc (Nat.le_refl _) (.cells #[.int .u8 97, .int .u8 98] 5 (2, 3))
  have C0 : CB (w.alloc (.cells #[.int .u8 97, .int .u8 98] 5 (2, 3))) (some ⟨w.heap.size, 0, none⟩) [97, 98] := C_mark (fr := (2, 3)) [97, 98] (by simp) (heap_alloc_new _ _)
  have E1 := enc_any (w := w.alloc (.cells #[.int .u8 97, .int .u8 98] 5 (2, 3))) 8 4 0 0 0 true (A6 := some ⟨w.heap.size, 0, none⟩) (A7 := none) (c6 := 2) (c7 := 0) (data := [97, 98]) (acks := []) (by unfold Encode.bd; omega) (by unfold Encode.bd; omega) (by unfold Encode.bd; omega) (by unfold Encode.bd; omega) (by unfold Encode.bd; omega) C0 (by simp) (by simp) (Kd.C_nil _ _) (by simp) (by intro s hs; simp at hs) (by simp)
  rw [show encF okS ackOf ⟨8, 4, 0, 0, 0, true, [97, 98], []⟩ = ([11, 4, 2, 97, 98], 0) by decide] at E1
  have HE1 := Lib.hid E1
  have HB0 := Lib.hid B0
  clear hcv B0 C0 E1
  refine HE1.out.mono ?_
  clear HE1
  rintro e w1 ⟨v1, rfl, R1, B1⟩
  obtain ⟨A1, c1, rfl, hc1, hC1, -⟩ := RB.read R1
  have HC1 := Lib.hid hC1
  have HB1 := Lib.hid (HB0.out.trans (B1.mono HB0.out.size))
  clear R1 B1 hC1
  go_wp2_with fail
  have hk := heap_alloc_new w1 (.cells (flat84 [⟨5, 7⟩, ⟨2, 2⟩]).toArray 84)
  have B2 := (Below.refl w1.heap.size w1).alloc (Nat.le_refl _) (.cells (flat84 [⟨5, 7⟩, ⟨2, 2⟩]).toArray 84)
  have C2 := C_blk84 [⟨5, 7⟩, ⟨2, 2⟩] (by simp) hk
  have E2 := enc_any (w := w1.alloc (.cells (flat84 [⟨5, 7⟩, ⟨2, 2⟩]).toArray 84)) 2 0 0 0 0 false (A6 := none) (A7 := some ⟨w1.heap.size, 0, none⟩) (c6 := 0) (c7 := 2) (data := []) (acks := [⟨5, 7⟩, ⟨2, 2⟩]) (by unfold Encode.bd; omega) (by unfold Encode.bd; omega) (by unfold Encode.bd; omega) (by unfold Encode.bd; omega) (by unfold Encode.bd; omega) (Kd.C_nil _ _) (by simp) (by simp) C2 (by simp) (by intro s hs; simp at hs; rcases hs with rfl | rfl <;> exact ⟨⟨by decide, by decide⟩, ⟨by decide, by decide⟩⟩) (by simp)
  rw [show encF okS ackOf ⟨2, 0, 0, 0, 0, false, [], [⟨5, 7⟩, ⟨2, 2⟩]⟩ = ([2, 7, 0, 1, 2, 1, 0], 0) by decide] at E2
  have HE2 := Lib.hid E2
  have HB2 := Lib.hid (HB1.out.trans (B2.mono HB1.out.size))
  have HC12 := Lib.hid (Kd.C_below HC1.out B2)
  clear hk B2 C2 E2
  refine HE2.out.mono ?_
  clear HE2
  rintro e w3 ⟨v2, rfl, R3, B3⟩
  obtain ⟨A2, c2, rfl, hc2, hC2, -⟩ := RB.read R3
  have hs1 : (convert 30 9 (.slice A1 5 c1)).run Try.prog w3 = .ok (.string (strOfNums [11, 4, 2, 97, 98])) w3 := Kd.C_string Try.underlying30 Try.underlying5 Try.underlying9 (Kd.C_below HC12.out B3)
  have hs2 : (convert 30 9 (.slice A2 7 c2)).run Try.prog w3 = .ok (.string (strOfNums [2, 7, 0, 1, 2, 1, 0])) w3 := Kd.C_string Try.underlying30 Try.underlying5 Try.underlying9 hC2
  have est1 : (strOfNums [11, 4, 2, 97, 98]).toList = [11, 4, 2, 97, 98] := by rw [ByteArray.toList_eq]; rfl
  have est2 : (strOfNums [2, 7, 0, 1, 2, 1, 0]).toList = [2, 7, 0, 1, 2, 1, 0] := by rw [ByteArray.toList_eq]; rfl
  have HB3 := Lib.hid (HB2.out.trans (B3.mono HB2.out.size))
  clear R3 B3 hC2
  go_wp2_with fail
  go_ret
  exact ⟨rfl, HB3.out⟩
end Go.Proofs.Ytmccghadgihbpaa.Awake11
