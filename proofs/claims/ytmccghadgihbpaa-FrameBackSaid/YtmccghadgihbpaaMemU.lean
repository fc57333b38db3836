/- Rows of numbers that a call makes: what a literal and append make of them, at one operation of a region. -/
import Derived.Test.YtmccghadgihbpaaMem
import Derived.Test.YtmccghadgihbpaaFlowLit
namespace Go.Proofs.Ytmccghadgihbpaa.MemU
open Go Go.RowKit Go.Proofs.YtmccghadgihbpaaW.PrintWords Go.Proofs.YtmccghadgihbpaaW.PrintLast Go.Proofs.YtmccghadgihbpaaW.PrintMore Go.Proofs.Ytmccghadgihbpaa.Keep Go.Proofs.Ytmccghadgihbpaa.Mem
set_option linter.unusedVariables false

theorem reps_int (k : IntKind) (w : World) (base : Nat) (okp : Nat → Prop) (xs : List Int) : Reps ((Kd.int k).M w base okp) (Kd.int k).sz xs (xs.map (Value.int k)) := Kd.reps_scalar xs

theorem below_of_grown {W w1 : World} (h : W.grownBy w1 none) : Below W.heap.size W w1 := ⟨h.os, h.tape, h.output, h.size, fun k hk => h.block k hk (by simp)⟩
theorem grown_blk {W w1 : World} {g : Nat} {row : Option Nat} {o : Obj} (h : W.grownBy w1 row) (hb : W.heap[g]? = some o) (hne : some g ≠ row) : w1.heap[g]? = some o := (h.block g (blk_lt hb) hne).trans hb

section
variable {ops : Array Oper} {o : Oper} {a : Act} {Q : Exit → Act → World → Prop} {Kc : Act → World → Prop} {W w0 : World}

/-- A literal of numbers. -/
theorem litU (base : Nat) (hw : Region.wanted o (yielded ops a.tmps) = true) {N : Tmp} (hd : o.dst = some N) (xs : List Int)
    (hrun : (execOp a.eval o).run Try.prog W = .ok (.value (.slice (some ⟨W.heap.size, 0, none⟩) xs.length xs.length)) (W.alloc (.cells (xs.map (Value.int .u64)).toArray 22)))
    (hB : Below base w0 W) (hbase : base ≤ W.heap.size) (hl : xs.length ≤ 1000000)
    (h : ∀ v1 w1, RU w1 base v1 xs → Below base w0 w1 → W.grownBy w1 none → Kc (a.put o.dst v1) w1) : if Region.wanted o (yielded ops a.tmps) = true then Oper.wp Try.prog o a W Kc Q else Kc (a.put o.dst undef) W :=
  Kd.R_lit_step (Kd.int .u64) (w0 := w0) base 22 hw hd (xs := xs) (inner := xs.map (Value.int .u64)) (ok := fun _ => True) (okp := fun _ => True) hrun (reps_int _ _ _ _ _) (fun _ h => h) trivial hB hbase (by omega) (fun v1 w1 R B G _ => h v1 w1 R B G)

/-- 'append(s, x...)', numbers; s a row of the call's own. -/
theorem appU (base : Nat) (hw : Region.wanted o (yielded ops a.tmps) = true) (s x : Operand) (ho : o.op = .call { callee := .builtin .append, args := #[s, x], argTypes := #[40, 40] })
    {v : Value} {xs ys : List Int} {A : Option Addr} {m c : Nat} (HO : RU W base v xs) (hs : a.eval s = v) (hx : a.eval x = .slice A m c) (hm : m = ys.length) (HR : CU W A ys) (hB : Below base w0 W) (hbase : base ≤ W.heap.size)
    (hl : xs.length + ys.length ≤ 17592186044416)
    (h : ∀ v1 w1, RU w1 base v1 (xs ++ ys) → Below base w0 w1 → W.grownBy w1 v.ownBlock → (v1.ownBlock = v.ownBlock ∨ ∃ b, v1.ownBlock = some b ∧ W.heap.size ≤ b) → Kc (a.put o.dst v1) w1) : if Region.wanted o (yielded ops a.tmps) = true then Oper.wp Try.prog o a W Kc Q else Kc (a.put o.dst undef) W := by
  subst hm
  exact Kd.R_append_rows_step (Kd.int .u64) (w0 := w0) base hw s x 40 22 (.int .u64 0) 8 ho Try.underlying40 info64 rfl (by decide) (by decide) v xs ys A ys.length c (fun _ => True) (fun _ => False) hs hx HO HR (fun _ _ hh => hh) (fun _ hk => hk.elim) (fun _ _ => trivial) hB hbase (by omega) h
end

/-- What a laid row of numbers reads as. -/
theorem C_blk {k : IntKind} {w : World} {b : Nat} {e : TypeId} (l : List Int) (hl : l.length ≤ 9223372036854775807) (h : w.heap[b]? = some (.cells (l.map (Value.int k)).toArray e (0, 0))) : Kd.C (Kd.int k) w (some ⟨b, 0, none⟩) l.length l := by
  refine ⟨rfl, hl, fun _ => ⟨_, rfl, fun j p hj => ⟨[Value.int k p], rfl, rfl, fun i u hu => ?_⟩⟩⟩
  have hi : i = 0 := by
    cases i with
    | zero => rfl
    | succ i => simp at hu
  subst hi
  have hu : Value.int k p = u := by simpa using hu
  subst hu
  have ea : (⟨b, 0, none⟩ : Addr).add (j * (Kd.int k).sz + 0) = ⟨b, j, none⟩ := by
    rw [show j * (Kd.int k).sz + 0 = j from Nat.mul_one j, add_plain]
  rw [ea, cell_of_row _ _ _ _ _ _ h]
  simp [hj]
end Go.Proofs.Ytmccghadgihbpaa.MemU
