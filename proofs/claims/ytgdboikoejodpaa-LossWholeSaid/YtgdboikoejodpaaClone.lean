/- Clones of lists: packets, frames; Open. -/
import Derived.Test.YtgdboikoejodpaaAck
import Derived.Test.YtgdboikoejodpaaFlowLast
namespace Go.Proofs.Ytgdboikoejodpaa.Clone
open Go Go.RowKit Go.Proofs.YtgdboikoejodpaaW.PrintWords Go.Proofs.YtgdboikoejodpaaW.PrintLast Go.Proofs.YtgdboikoejodpaaW.PrintMore Go.Proofs.Ytgdboikoejodpaa.Keep Go.Proofs.Ytgdboikoejodpaa.Led Go.Proofs.Ytgdboikoejodpaa.Rate Go.Proofs.Ytgdboikoejodpaa.Rd Go.Proofs.Ytgdboikoejodpaa.Timer Go.Proofs.Ytgdboikoejodpaa.LedSp Go.Proofs.Ytgdboikoejodpaa.Drop Go.Proofs.Ytgdboikoejodpaa.In Go.Proofs.Ytgdboikoejodpaa.Split
set_option linter.unusedVariables false

/-- A frame, its rows by where they lie. -/
structure F where
  kind : Int
  id : Int
  off : Int
  n : Int
  code : Int
  fin : Bool
  da : Option Addr
  dn : Nat
  dc : Nat
  aa : Option Addr
  an : Nat
  ac : Nat
def F.cells (x : F) : List Value := [.int .u64 x.kind, .int .u64 x.id, .int .u64 x.off, .int .u64 x.n, .int .u64 x.code, .bool x.fin, .slice x.da x.dn x.dc, .slice x.aa x.an x.ac]
def kR : Kd F where
  sz := 8
  E := []
  K := fun _ x cs => cs = x.cells
  M := fun _ _ _ x cs => cs = x.cells
  K_len := by rintro w x cs rfl; rfl
  K_one := by
    rintro w x cs rfl u hu
    simp only [F.cells, List.mem_cons, List.not_mem_nil, or_false] at hu
    rcases hu with rfl | rfl | rfl | rfl | rfl | rfl | rfl | rfl <;> rfl
  K_below := fun _ h => h
  K_of_M := fun h => h
  M_mono := fun _ h => h
  M_bound := fun h => h
  M_move := fun _ h => h
  M_lower := fun _ h => h
abbrev RF (w : World) (base : Nat) (v : Value) (l : List F) : Prop := kR.R 72 w base (fun _ => True) v l
theorem infoF : (Try.prog.info? 72).map (fun i => (i.zero, i.size, i.bytes)) = some (some (.agg #[.int .u64 0, .int .u64 0, .int .u64 0, .int .u64 0, .int .u64 0, .bool false, .slice none 0 0, .slice none 0 0]), 8, 96) := by kernel_rfl
/-- A list of none, laid. -/
theorem R_void {α : Type} (d : Kd α) (e : TypeId) (W : World) (base : Nat) (hb : base ≤ W.heap.size) : d.R e (W.alloc (.cells #[] e)) base (fun _ => True) (.slice (some ⟨W.heap.size, 0, none⟩) 0 0) [] :=
  ⟨fun _ _ => trivial, OwnRow.lit (inner := []) W base (Reps.none _ _) hb (by simp)⟩

set_option maxRecDepth 100000 in
theorem cloneF_calls {w : World} (A : Option Addr) (c : Nat) (xs : List F) (h : Kd.C kR w A xs.length xs) (hl : xs.length ≤ 1000000) :
    Calls Try.prog 31 #[.slice A xs.length c] w fun e w' => ∃ v, e = .returned v ∧ RF w' w.heap.size v xs ∧ Below w.heap.size w w' ∧ (A = none → v = .slice none 0 0) := by
  have HH := Lib.hid h
  clear h
  have he : ∀ (w : World) (ad : Addr) (n c : Nat), (binOp .eql 28 (.slice (some ad) n c) (.slice none 0 0)).run Try.prog w = .ok (.bool false) w := fun _ _ _ _ => rfl
  have hn : ∀ (w : World) (n c : Nat), (binOp .eql 28 (.slice none n c) (.slice none 0 0)).run Try.prog w = .ok (.bool true) w := fun _ _ _ => rfl
  cases A with
  | none =>
    have e0 : xs = [] := by
      cases xs with
      | nil => rfl
      | cons x l => obtain ⟨ad, e, -⟩ := HH.out.2.2 (by simp); cases e
    subst e0
    go_enter Try.func31, Try.ntmps31
    go_wp2_with fail
    go_ret
    exact ⟨_, rfl, Kd.R_nil _ _ _ _ _, Below.refl _ _, fun _ => rfl⟩
  | some ad =>
    have B1 := (Below.refl w.heap.size w).alloc (Nat.le_refl _) (.cells #[] 72)
    have HB1 := Lib.hid B1
    have HC1 := Lib.hid (Kd.C_below HH.out B1)
    have hsz : w.heap.size ≤ (w.alloc (.cells #[] 72)).heap.size := B1.size
    have HV := Lib.hid (R_void kR 72 w w.heap.size (Nat.le_refl _))
    clear B1
    go_enter Try.func31, Try.ntmps31
    go_wp2_with (first
      | ((with_reducible refine gate_builtin (b := .append) (xs := #[.tmp 5, .tmp 6]) rfl ?_); refine Kd.R_append_rows kR (w0 := w) w.heap.size rfl (.tmp 5) (.tmp 6) 28 72 (.agg #[.int .u64 0, .int .u64 0, .int .u64 0, .int .u64 0, .int .u64 0, .bool false, .slice none 0 0, .slice none 0 0]) 96 rfl Try.underlying28 infoF rfl (by decide) (by decide) _ [] xs (some ad) xs.length c (fun _ => True) (fun _ => False) rfl rfl HV.out HC1.out (fun _ _ hh => hh) (fun _ hk => hk.elim) (fun _ _ => trivial) HB1.out hsz (by simp; omega) ?_; intro v8 w8 R8 B8 G8 N8))
    obtain ⟨A5, c5, e5, -, -⟩ := Kd.R_reads R8
    subst e5
    go_ret
    exact ⟨_, rfl, R8, B8, fun h => nomatch h⟩
set_option maxRecDepth 100000 in
theorem cloneS_calls {w : World} (A : Option Addr) (c : Nat) (xs : List S) (h : Kd.C kS w A xs.length xs) (hl : xs.length ≤ 1000000) :
    Calls Try.prog 39 #[.slice A xs.length c] w fun e w' => ∃ v, e = .returned v ∧ RS w' w.heap.size v xs ∧ Below w.heap.size w w' := by
  have HH := Lib.hid h
  clear h
  have he : ∀ (w : World) (ad : Addr) (n c : Nat), (binOp .eql 31 (.slice (some ad) n c) (.slice none 0 0)).run Try.prog w = .ok (.bool false) w := fun _ _ _ _ => rfl
  have hn : ∀ (w : World) (n c : Nat), (binOp .eql 31 (.slice none n c) (.slice none 0 0)).run Try.prog w = .ok (.bool true) w := fun _ _ _ => rfl
  cases A with
  | none =>
    have e0 : xs = [] := by
      cases xs with
      | nil => rfl
      | cons x l => obtain ⟨ad, e, -⟩ := HH.out.2.2 (by simp); cases e
    subst e0
    go_enter Try.func39, Try.ntmps39
    go_wp2_with fail
    go_ret
    exact ⟨_, rfl, Kd.R_nil _ _ _ _ _, Below.refl _ _⟩
  | some ad =>
    have B1 := (Below.refl w.heap.size w).alloc (Nat.le_refl _) (.cells #[] 30)
    have HB1 := Lib.hid B1
    have HC1 := Lib.hid (Kd.C_below HH.out B1)
    have hsz : w.heap.size ≤ (w.alloc (.cells #[] 30)).heap.size := B1.size
    have HV := Lib.hid (R_void kS 30 w w.heap.size (Nat.le_refl _))
    clear B1
    go_enter Try.func39, Try.ntmps39
    go_wp2_with (first
      | ((with_reducible refine gate_builtin (b := .append) (xs := #[.tmp 5, .tmp 6]) rfl ?_); refine Kd.R_append_rows kS (w0 := w) w.heap.size rfl (.tmp 5) (.tmp 6) 31 30 (.agg #[.int .u64 0, .int .u64 0, .int .u64 0, .bool false, .slice none 0 0]) 56 rfl Try.underlying31 infoS rfl (by decide) (by decide) _ [] xs (some ad) xs.length c (fun _ => True) (fun _ => False) rfl rfl HV.out HC1.out (fun _ _ hh => hh) (fun _ hk => hk.elim) (fun _ _ => trivial) HB1.out hsz (by simp; omega) ?_; intro v8 w8 R8 B8 G8 N8))
    obtain ⟨A5, c5, e5, -, -⟩ := Kd.R_reads R8
    subst e5
    go_ret
    exact ⟨_, rfl, R8, B8⟩

set_option maxHeartbeats 1000000 in
theorem open_calls {w : World} {p base : Nat} {L : Lg} {v : Nat → Value} (h : Led w p base L v) (i : Nat) (hi : i < 3) (hl : (L.sp i).list.length ≤ 1000000) :
    Calls Try.prog 18 #[.pointer (some ⟨p, 0, none⟩), .int .i64 (i : Int)] w fun e w' => ∃ u, e = .returned u ∧ RS w' w.heap.size u (L.sp i).list ∧ Below w.heap.size w w' := by
  obtain ⟨k0, k1, k2, k3⟩ := sp_cells h i hi
  have i0 : ((i : Int) < 0) = False := eq_false (by omega)
  have i1 : ((i : Int) ≥ 3) = False := eq_false (by omega)
  obtain ⟨A, c, ev, hX⟩ := row_slice (h.row i hi)
  rw [ev] at k0
  have CL := cloneS_calls A c (L.sp i).list hX hl
  have HCL := Lib.hid CL
  clear CL hX ev k1 k2 k3
  go_enter Try.func18, Try.ntmps18
  go_wp2_with fail
  refine HCL.out.mono ?_
  rintro e w2 ⟨u, rfl, R2, B2⟩
  obtain ⟨A5, c5, e5, -⟩ := row_slice R2
  subst e5
  have HR2 := Lib.hid R2
  go_wp2_with fail
  go_ret
  exact ⟨_, rfl, HR2.out, B2⟩
end Go.Proofs.Ytgdboikoejodpaa.Clone
