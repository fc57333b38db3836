/- Bytes that a call makes: a new empty row, and what append makes of it, as laws at one operation. -/
import Derived.Test.YtmccghadgihbpaaRows
import Derived.Test.YtmccghadgihbpaaKeep
import Derived.Test.YtmccghadgihbpaaWZeros
import Derived.WalkLawsBesides
import Derived.WalkSpells
namespace Go.Proofs.Ytmccghadgihbpaa.Mem
open Go Go.RowKit Go.Proofs.YtmccghadgihbpaaW.PrintWords Go.Proofs.YtmccghadgihbpaaW.PrintLast Go.Proofs.YtmccghadgihbpaaW.PrintMore Go.Proofs.Ytmccghadgihbpaa.Keep
set_option linter.unusedVariables false

theorem info8 : (Try.prog.info? 5).map (fun i => (i.zero, i.size, i.bytes)) = some (some (.int .u8 0), 1, 1) := by kernel_rfl
theorem info64 : (Try.prog.info? 22).map (fun i => (i.zero, i.size, i.bytes)) = some (some (.int .u64 0), 1, 8) := by kernel_rfl

/-- Bytes of the call's own, from block 'base' on. -/
abbrev RB (w : World) (base : Nat) (v : Value) (l : List Int) : Prop := Kd.R (Kd.int .u8) 5 w base (fun _ => True) v l
abbrev CB (w : World) (A : Option Addr) (l : List Int) : Prop := Kd.C (Kd.int .u8) w A l.length l
/-- Numbers (uint64). -/
abbrev RU (w : World) (base : Nat) (v : Value) (l : List Int) : Prop := Kd.R (Kd.int .u64) 22 w base (fun _ => True) v l
abbrev CU (w : World) (A : Option Addr) (l : List Int) : Prop := Kd.C (Kd.int .u64) w A l.length l

theorem R_block {α : Type} {d : Kd α} {e base : Nat} {w : World} {ok : Nat → Prop} {v : Value} {l : List α} (h : d.R e w base ok v l) : ∀ k, v.ownBlock = some k → base ≤ k ∧ k < w.heap.size := by
  obtain ⟨inner, ho⟩ := Kd.R_own h
  exact fun k hk => ⟨own_base ho k hk, own_lt ho k hk⟩
/-- What is read of a row of the call's own: where it lies. -/
theorem RB.read {w : World} {base : Nat} {v : Value} {l : List Int} (h : RB w base v l) : ∃ A c, v = .slice A l.length c ∧ l.length ≤ c ∧ CB w A l ∧ (∀ a, A = some a → base ≤ a.block ∧ a.block < w.heap.size) := by
  obtain ⟨A, c, rfl, hc, hC⟩ := Kd.R_reads h
  exact ⟨A, c, rfl, hc, hC, fun a ha => by subst ha; exact R_block h a.block rfl⟩

section
variable {ops : Array Oper} {rest : List Oper} {o : Oper} {a : Act} {Q : Exit → Act → World → Prop} {W w0 : World}

/-- '[]byte{}' -/
theorem litB (base : Nat) (hgd : o.guard = none) {N : Tmp} (hd : o.dst = some N) (ho : o.op = .buildSlice 30 0 #[]) (hB : Below base w0 W) (hbase : base ≤ W.heap.size)
    (h : ∀ v1 w1, RB w1 base v1 [] → Below base w0 w1 → W.grownBy w1 none → (∃ b, v1.ownBlock = some b ∧ W.heap.size ≤ b) → wpList Try.prog ops Q rest (a.put o.dst v1) w1) : wpList Try.prog ops Q (o :: rest) a W := by
  obtain ⟨dst, op, ty, pos, aft, gd⟩ := o
  simp only at ho hgd hd
  subst ho hgd hd
  refine Kd.R_lit (Kd.int .u8) (w0 := w0) base 5 rfl (N := N) rfl (xs := []) (inner := []) (ok := fun _ => True) (okp := fun _ => True) ?_ (Reps.none _ _) (fun _ hk => hk) trivial hB hbase (by simp) h
  go_simp

/-- 'append(s, x...)', s a row of the call's own. -/
theorem appB (base : Nat) (hgd : o.guard = none) (s x : Operand) (ho : o.op = .call { callee := .builtin .append, args := #[s, x], argTypes := #[30, 30] })
    {v : Value} {xs ys : List Int} {A : Option Addr} {m c : Nat} (HO : RB W base v xs) (hs : a.eval s = v) (hx : a.eval x = .slice A m c) (hm : m = ys.length) (HR : CB W A ys) (hB : Below base w0 W) (hbase : base ≤ W.heap.size)
    (hl : xs.length + ys.length ≤ 140737488355328)
    (h : ∀ v1 w1, RB w1 base v1 (xs ++ ys) → Below base w0 w1 → W.grownBy w1 v.ownBlock → (v1.ownBlock = v.ownBlock ∨ ∃ b, v1.ownBlock = some b ∧ W.heap.size ≤ b) → wpList Try.prog ops Q rest (a.put o.dst v1) w1) : wpList Try.prog ops Q (o :: rest) a W := by
  subst hm
  exact Kd.R_append_rows (Kd.int .u8) (w0 := w0) base hgd s x 30 5 (.int .u8 0) 1 ho Try.underlying30 info8 rfl (by decide) (by decide) v xs ys A ys.length c (fun _ => True) (fun _ => False) hs hx HO HR (fun _ _ hh => hh) (fun _ hk => hk.elim) (fun _ _ => trivial) hB hbase (by omega) h

/-- 'append(s, b)': one byte, laid into a block of its own just ahead. -/
theorem app1B (base : Nat) (hgd : o.guard = none) (s x : Operand) (ho : o.op = .call { callee := .builtin .append, args := #[s, x], argTypes := #[30, 30] })
    {v : Value} {xs : List Int} {p : Int} (HO : RB W base v xs) (hs : a.eval s = v) (hx : a.eval x = .slice (some ⟨W.heap.size, 0, none⟩) 1 1) (hB : Below base w0 W) (hbase : base ≤ W.heap.size)
    (hl : xs.length + 1 ≤ 140737488355328)
    (h : ∀ v1 w1, RB w1 base v1 (xs ++ [p]) → Below base w0 w1 → W.grownBy w1 v.ownBlock → (v1.ownBlock = v.ownBlock ∨ ∃ b, v1.ownBlock = some b ∧ W.heap.size ≤ b) → wpList Try.prog ops Q rest (a.put o.dst v1) w1) : wpList Try.prog ops Q (o :: rest) a (W.alloc (.cells #[.int .u8 p] 5)) :=
  Kd.R_append (Kd.int .u8) (w0 := w0) base hgd s x 30 5 (.int .u8 0) 1 ho Try.underlying30 info8 rfl (by decide) (by decide) v xs p [.int .u8 p] (fun _ => True) (fun _ => False) hs hx rfl (fun _ hk => hk.elim) (fun _ _ => trivial) HO hB hbase (by omega) h
end

theorem RU.read {w : World} {base : Nat} {v : Value} {l : List Int} (h : RU w base v l) : ∃ A c, v = .slice A l.length c ∧ l.length ≤ c ∧ CU w A l ∧ (∀ a, A = some a → base ≤ a.block ∧ a.block < w.heap.size) := by
  obtain ⟨A, c, rfl, hc, hC⟩ := Kd.R_reads h
  exact ⟨A, c, rfl, hc, hC, fun a ha => by subst ha; exact R_block h a.block rfl⟩
/-- 'append(s, n)', numbers: one, laid into a block of its own just ahead. -/
theorem app1U {ops : Array Oper} {rest : List Oper} {o : Oper} {a : Act} {Q : Exit → Act → World → Prop} {W w0 : World} (base : Nat) (hgd : o.guard = none) (s x : Operand) (ho : o.op = .call { callee := .builtin .append, args := #[s, x], argTypes := #[40, 40] })
    {v : Value} {xs : List Int} {p : Int} (HO : RU W base v xs) (hs : a.eval s = v) (hx : a.eval x = .slice (some ⟨W.heap.size, 0, none⟩) 1 1) (hB : Below base w0 W) (hbase : base ≤ W.heap.size)
    (hl : xs.length + 1 ≤ 17592186044416)
    (h : ∀ v1 w1, RU w1 base v1 (xs ++ [p]) → Below base w0 w1 → W.grownBy w1 v.ownBlock → (v1.ownBlock = v.ownBlock ∨ ∃ b, v1.ownBlock = some b ∧ W.heap.size ≤ b) → wpList Try.prog ops Q rest (a.put o.dst v1) w1) : wpList Try.prog ops Q (o :: rest) a (W.alloc (.cells #[.int .u64 p] 22)) :=
  Kd.R_append (Kd.int .u64) (w0 := w0) base hgd s x 40 22 (.int .u64 0) 8 ho Try.underlying40 info64 rfl (by decide) (by decide) v xs p [.int .u64 p] (fun _ => True) (fun _ => False) hs hx rfl (fun _ hk => hk.elim) (fun _ _ => trivial) HO hB hbase (by omega) h

/-- 'xs[:m]' and 'xs[m:]' of bytes that are read. -/
theorem takeB (kl : IntKind) {A : Option Addr} {c : Nat} {xs : List Int} {m : Nat} (hm : m ≤ xs.length) (hc : xs.length ≤ c) :
    ∀ W : World, (Instr.slice 30 (.slice A xs.length c) none (some (.int kl (m : Int))) none).run Try.prog W = .ok (.slice A (xs.take m).length c) W := by
  obtain ⟨i0, hi, hzz⟩ := Option.map_eq_some_iff.1 info8
  simp only [Prod.mk.injEq] at hzz
  have h := (print_take_of (P := Try.prog) (Value.int .u8) (0 : Int) 30 5 kl Try.underlying30 hi hzz.2.1 A c xs (m : Int) (Int.natCast_nonneg _) (by omega) hc).1
  simpa using h
theorem cutB (kl : IntKind) {w : World} {A : Option Addr} {c : Nat} {xs : List Int} {m : Nat} (hm : m ≤ xs.length) (hc : xs.length ≤ c) (hC : CB w A xs) :
    ∃ A' : Option Addr, (∀ W : World, (Instr.slice 30 (.slice A xs.length c) (some (.int kl (m : Int))) none none).run Try.prog W = .ok (.slice A' (xs.drop m).length (c - m)) W) ∧ CB w A' (xs.drop m) ∧ (∀ a', A' = some a' → ∃ a, A = some a ∧ a'.block = a.block) := by
  obtain ⟨i0, hi, hzz⟩ := Option.map_eq_some_iff.1 info8
  simp only [Prod.mk.injEq] at hzz
  refine ⟨if c = m then A else A.map (·.add m), fun W => ?_, by have h := Kd.C_drop hC hm hc; rw [show m * (Kd.int IntKind.u8).sz = m from Nat.mul_one m] at h; exact h, fun a' ha' => ?_⟩
  · have hel : Program.elem Try.prog 30 = 5 := by simp [Program.elem, Try.underlying30]
    have hu : Try.prog.underlying 30 = some (.slice (Program.elem Try.prog 30)) := by rw [hel]; exact Try.underlying30
    rw [run_slice_l W 30 A xs.length c hu kl (m : Int) (Int.natCast_nonneg _) (by omega), hel]
    simp [sizeOf, typeInfo, hi, hzz.2.1, sliced, Result.andThen]
  · split at ha'
    · exact ⟨a', ha', rfl⟩
    · cases A with
      | none => cases ha'
      | some a =>
        refine ⟨a, rfl, ?_⟩
        have : a.add m = a' := by simpa using ha'
        rw [← this]
        unfold Addr.add
        split <;> rfl

/-- A row of numbers just laid is read as they are. -/
theorem C_lit (k : IntKind) (w : World) (e : TypeId) (l : List Int) (hl : l.length ≤ 9223372036854775807) : Kd.C (Kd.int k) (w.alloc (.cells (l.map (Value.int k)).toArray e)) (some ⟨w.heap.size, 0, none⟩) l.length l := by
  refine ⟨rfl, hl, fun _ => ⟨_, rfl, fun j p hj => ⟨[Value.int k p], rfl, rfl, fun i u hu => ?_⟩⟩⟩
  have hi : i = 0 := by
    cases i with
    | zero => rfl
    | succ i => simp at hu
  subst hi
  have hu : Value.int k p = u := by simpa using hu
  subst hu
  have ea : (⟨w.heap.size, 0, none⟩ : Addr).add (j * (Kd.int k).sz + 0) = ⟨w.heap.size, j, none⟩ := by
    rw [show j * (Kd.int k).sz + 0 = j from Nat.mul_one j, add_plain]
  rw [ea, cell_of_row _ _ _ _ _ _ (heap_alloc_new w _)]
  simp [hj]

/-- 'xs[:m]', within the capacity. -/
theorem growB (kl : IntKind) {A : Option Addr} {n c m : Nat} (hm : m ≤ c) :
    ∀ W : World, (Instr.slice 30 (.slice A n c) none (some (.int kl (m : Int))) none).run Try.prog W = .ok (.slice A m c) W := by
  obtain ⟨i0, hi, hzz⟩ := Option.map_eq_some_iff.1 info8
  simp only [Prod.mk.injEq] at hzz
  intro W
  have hel : Program.elem Try.prog 30 = 5 := by simp [Program.elem, Try.underlying30]
  have hu : Try.prog.underlying 30 = some (.slice (Program.elem Try.prog 30)) := by rw [hel]; exact Try.underlying30
  have ha : (A.map fun x => x.add 0) = A := by cases A <;> simp [Addr.add]
  rw [run_slice_h W 30 A n c hu kl (m : Int) (Int.natCast_nonneg _) (by omega), hel]
  simp [sizeOf, typeInfo, hi, hzz.2.1, sliced, Result.andThen, ha]

end Go.Proofs.Ytmccghadgihbpaa.Mem
