/- A ledger of packets: what it is, plainly; and how it lies in memory. -/
import Derived.Test.YtgdboikoejodpaaKeep
import Derived.Test.YtgdboikoejodpaaRows
import Derived.Test.YtgdboikoejodpaaWZeros
import Derived.Lib.Hide
import Derived.Lib.SmallJoins
namespace Go.Proofs.Ytgdboikoejodpaa.Led
open Go Go.RowKit Go.Proofs.YtgdboikoejodpaaW.PrintWords Go.Proofs.YtgdboikoejodpaaW.PrintLast Go.Proofs.YtgdboikoejodpaaW.PrintMore Go.Proofs.Ytgdboikoejodpaa.Keep
set_option linter.unusedVariables false

/-- A packet that was sent: its frames by where they lie. -/
structure S where
  pn : Int
  time : Int
  size : Int
  asks : Bool
  fa : Option Addr
  fn : Nat
  fc : Nat
def S.cells (x : S) : List Value := [.int .u64 x.pn, .int .u64 x.time, .int .u64 x.size, .bool x.asks, .slice x.fa x.fn x.fc]
def zS : S := ⟨0, 0, 0, false, none, 0, 0⟩
def kS : Kd S where
  sz := 5
  E := []
  K := fun _ x cs => cs = x.cells
  M := fun _ _ _ x cs => cs = x.cells
  K_len := by rintro w x cs rfl; rfl
  K_one := by
    rintro w x cs rfl u hu
    simp only [S.cells, List.mem_cons, List.not_mem_nil, or_false] at hu
    rcases hu with rfl | rfl | rfl | rfl | rfl <;> rfl
  K_below := fun _ h => h
  K_of_M := fun h => h
  M_mono := fun _ h => h
  M_bound := fun h => h
  M_move := fun _ h => h
  M_lower := fun _ h => h
def rdS (xs : List S) (i : Int) : S := xs.getD i.toNat zS
theorem at_S {w : World} {A : Option Addr} {n : Nat} {xs : List S} (h : Kd.C kS w A n xs) (k : Nat) (hk : k < n) : ∃ ad, A = some ad ∧ w.cell? (ad.add (k * 5)) = some (.int .u64 (rdS xs k).pn) ∧ w.cell? ⟨(ad.add (k * 5)).block, (ad.add (k * 5)).off + 1, none⟩ = some (.int .u64 (rdS xs k).time) ∧ w.cell? ⟨(ad.add (k * 5)).block, (ad.add (k * 5)).off + 2, none⟩ = some (.int .u64 (rdS xs k).size) ∧
    w.cell? ⟨(ad.add (k * 5)).block, (ad.add (k * 5)).off + 3, none⟩ = some (.bool (rdS xs k).asks) ∧ w.cell? ⟨(ad.add (k * 5)).block, (ad.add (k * 5)).off + 4, none⟩ = some (.slice (rdS xs k).fa (rdS xs k).fn (rdS xs k).fc) := by
  obtain ⟨ad, c, e, _, hK, hc0⟩ := Kd.C_get h zS (k : Int) (by omega) (by omega)
  have hc : ∀ j u, c[j]? = some u → w.cell? (ad.add (k * 5 + j)) = some u := hc0
  have hK : c = (rdS xs k).cells := hK
  subst hK
  exact ⟨ad, e, hc 0 _ rfl, by rw [← add_field _ _ 1 (by omega)]; exact hc 1 _ rfl, by rw [← add_field _ _ 2 (by omega)]; exact hc 2 _ rfl, by rw [← add_field _ _ 3 (by omega)]; exact hc 3 _ rfl, by rw [← add_field _ _ 4 (by omega)]; exact hc 4 _ rfl⟩
theorem rdS_in {l : List S} {i : Nat} (h : i < l.length) : rdS l (i : Int) = l[i] := by
  unfold rdS
  simp [List.getD_eq_getElem?_getD, List.getElem?_eq_getElem h]

structure Sp where
  list : List S
  next : Int
  acked : Int
  timeout : Int
structure Rt where
  smooth : Int
  vary : Int
  latest : Int
  window : Int
  limit : Int
  flight : Int
  began : Int
structure Lg where
  r : Rt
  sp : Nat → Sp
  tries : Int
  last : Int

/-- The ledger's cells; v i: space i's list. -/
def Lg.cells (L : Lg) (v : Nat → Value) : Array Value :=
  #[.int .u64 L.r.smooth, .int .u64 L.r.vary, .int .u64 L.r.latest, .int .u64 L.r.window, .int .u64 L.r.limit, .int .u64 L.r.flight, .int .u64 L.r.began,
    v 0, .int .u64 (L.sp 0).next, .int .u64 (L.sp 0).acked, .int .u64 (L.sp 0).timeout,
    v 1, .int .u64 (L.sp 1).next, .int .u64 (L.sp 1).acked, .int .u64 (L.sp 1).timeout,
    v 2, .int .u64 (L.sp 2).next, .int .u64 (L.sp 2).acked, .int .u64 (L.sp 2).timeout,
    .int .i64 L.tries, .int .u64 L.last]

abbrev RS (w : World) (base : Nat) (v : Value) (l : List S) : Prop := kS.R 30 w base (fun _ => True) v l

/-- The ledger at block p, from block base on; v i: space i's list. -/
structure Led (w : World) (p base : Nat) (L : Lg) (v : Nat → Value) : Prop where
  blk : w.heap[p]? = some (.cells (L.cells v) 82 (0, 0))
  row : ∀ i, i < 3 → RS w base (v i) (L.sp i).list
  apart : ∀ i j, i < 3 → j < 3 → i ≠ j → ∀ k, (v i).ownBlock = some k → (v j).ownBlock ≠ some k
  hp : base ≤ p

/-- The blocks that are the ledger's. -/
def own (p : Nat) (v : Nat → Value) (k : Nat) : Prop := k = p ∨ ∃ i, i < 3 ∧ (v i).ownBlock = some k
/-- Of the old blocks at most those have turned. -/
structure KL (own : Nat → Prop) (w w' : World) : Prop where
  os : w'.os = w.os
  tape : w'.tape = w.tape
  output : w'.output = w.output
  size : w.heap.size ≤ w'.heap.size
  block : ∀ k, k < w.heap.size → ¬ own k → w'.heap[k]? = w.heap[k]?
theorem KL.refl (o : Nat → Prop) (w : World) : KL o w w := ⟨rfl, rfl, rfl, Nat.le_refl _, fun _ _ _ => rfl⟩
theorem KL.trans {o : Nat → Prop} {a b c : World} (h : KL o a b) (k : KL o b c) : KL o a c :=
  ⟨k.os.trans h.os, k.tape.trans h.tape, k.output.trans h.output, Nat.le_trans h.size k.size, fun i hi hp => (k.block i (Nat.lt_of_lt_of_le hi h.size) hp).trans (h.block i hi hp)⟩
/-- What the second turns is the first's, or new since. -/
theorem KL.trans' {o o' : Nat → Prop} {a b c : World} (h : KL o a b) (k : KL o' b c) (ho : ∀ i, o' i → o i ∨ a.heap.size ≤ i) : KL o a c :=
  ⟨k.os.trans h.os, k.tape.trans h.tape, k.output.trans h.output, Nat.le_trans h.size k.size, fun i hi hp => (k.block i (Nat.lt_of_lt_of_le hi h.size) (fun h2 => by rcases ho i h2 with h3 | h3; exact hp h3; omega)).trans (h.block i hi hp)⟩
theorem KL.of_below {o : Nat → Prop} {w w' : World} (h : Below w.heap.size w w') : KL o w w' := ⟨h.os, h.tape, h.output, h.size, fun k hk _ => h.block k hk⟩
theorem KL.below {o : Nat → Prop} {w0 w w' : World} {B : Nat} (k : KL o w w') (h : Below B w0 w) (hB : B ≤ w.heap.size) (ho : ∀ i, o i → B ≤ i) : Below B w0 w' :=
  ⟨k.os.trans h.os, k.tape.trans h.tape, k.output.trans h.output, Nat.le_trans h.size k.size, fun i hi => (k.block i (by omega) (fun h2 => by have := ho i h2; omega)).trans (h.block i hi)⟩
theorem KL.blk {o : Nat → Prop} {w w' : World} {g : Nat} {c : Obj} (k : KL o w w') (hb : w.heap[g]? = some c) (hg : ¬ o g) : w'.heap[g]? = some c := (k.block g (blk_lt hb) hg).trans hb
theorem KL.of_kp {o : Nat → Prop} {p : Nat} {w w' : World} (h : Kp p w w') (hp : o p) : KL o w w' := ⟨h.os, h.tape, h.output, h.size, fun k hk hn => h.block k hk (fun e => hn (e ▸ hp))⟩
theorem KL.drew {o : Nat → Prop} {w w' : World} (h : KL o w w') : KL o w w'.drew := ⟨h.os, h.tape, h.output, h.size, h.block⟩
theorem KL.drewN {o : Nat → Prop} {w w' : World} (h : KL o w w') (n : Nat) : KL o w (w'.drewN n) := ⟨h.os, h.tape, h.output, h.size, h.block⟩

theorem RS_bound {w : World} {base : Nat} {v : Value} {l : List S} (h : RS w base v l) (k : Nat) (hk : v.ownBlock = some k) : base ≤ k ∧ k < w.heap.size := by
  obtain ⟨inner, ho⟩ := Kd.R_own h
  exact ⟨own_base ho k hk, own_lt ho k hk⟩
theorem RS_typed {w : World} {base : Nat} {v : Value} {l : List S} (h : RS w base v l) (k : Nat) (hk : v.ownBlock = some k) : ∃ cells, w.heap[k]? = some (.cells cells 30 (0, 0)) := by
  obtain ⟨-, inner, ho, -⟩ := h
  exact own_typed ho k hk
theorem RS_move {w w' : World} {base : Nat} {v : Value} {l : List S} (h : RS w base v l) (hb : ∀ k, v.ownBlock = some k → w'.heap[k]? = w.heap[k]?) : RS w' base v l := by
  obtain ⟨h0, inner, ho, hr⟩ := h
  exact ⟨h0, inner, own_move ho hb, hr.imp_ (fun _ _ hp => hp)⟩
theorem Led.row_ne {w : World} {p base : Nat} {L : Lg} {v : Nat → Value} (h : Led w p base L v) (i : Nat) (hi : i < 3) : (v i).ownBlock ≠ some p := by
  intro e
  obtain ⟨c, hc⟩ := RS_typed (h.row i hi) p e
  rw [h.blk] at hc
  injection hc with hc
  injection hc with _ h2
  exact absurd h2 (by decide)
theorem Led.own_base {w : World} {p base : Nat} {L : Lg} {v : Nat → Value} (h : Led w p base L v) (k : Nat) (hk : own p v k) : base ≤ k ∧ k < w.heap.size := by
  rcases hk with rfl | ⟨i, hi, e⟩
  · exact ⟨h.hp, blk_lt h.blk⟩
  · exact RS_bound (h.row i hi) k e
/-- A ledger stays where none of its blocks turns. -/
theorem Led.stays {w w' : World} {p base : Nat} {L : Lg} {v : Nat → Value} (h : Led w p base L v) (hb : ∀ k, own p v k → w'.heap[k]? = w.heap[k]?) : Led w' p base L v :=
  ⟨(hb p (.inl rfl)).trans h.blk, fun i hi => RS_move (h.row i hi) (fun k hk => hb k (.inr ⟨i, hi, hk⟩)), h.apart, h.hp⟩
theorem Led.below {w w' : World} {p base : Nat} {L : Lg} {v : Nat → Value} (h : Led w p base L v) (hb : Below w.heap.size w w') : Led w' p base L v :=
  h.stays (fun k hk => hb.block k (h.own_base k hk).2)
/-- Its own cells turn: numbers. -/
theorem Led.put {w : World} {p base : Nat} {L L' : Lg} {v : Nat → Value} (h : Led w p base L v) (j : Nat) (u : Value) (hc : (L.cells v).setIfInBounds j u = L'.cells v) (hl : ∀ i, i < 3 → (L'.sp i).list = (L.sp i).list) : Led (w.setCell ⟨p, j, none⟩ u) p base L' v := by
  have hb := blk_set h.blk j u
  rw [hc] at hb
  refine ⟨hb, fun i hi => ?_, h.apart, h.hp⟩
  rw [hl i hi]
  exact RS_move (h.row i hi) (fun k hk => Below.heap_setCell w ⟨p, j, none⟩ u k (fun e => h.row_ne i hi (by rw [hk, e])))
/-- A space's list turns. -/
theorem Led.lay {w : World} {p base : Nat} {L L' : Lg} {v v' : Nat → Value} (h : Led w p base L v) (i j : Nat) (hi : i < 3) (u : Value) (hc : (L.cells v).setIfInBounds j u = L'.cells v') (hv : v' i = u) (hv2 : ∀ k, k < 3 → k ≠ i → v' k = v k) (hl : ∀ k, k < 3 → k ≠ i → (L'.sp k).list = (L.sp k).list) (hr : RS w base u (L'.sp i).list) (hn : u.ownBlock ≠ some p) (ha : ∀ k, k < 3 → k ≠ i → ∀ b, u.ownBlock = some b → (v k).ownBlock ≠ some b) : Led (w.setCell ⟨p, j, none⟩ u) p base L' v' := by
  have hb := blk_set h.blk j u
  rw [hc] at hb
  have far : ∀ k, k ≠ p → (w.setCell ⟨p, j, none⟩ u).heap[k]? = w.heap[k]? := fun k hk => Below.heap_setCell w ⟨p, j, none⟩ u k hk
  refine ⟨hb, fun k hk => ?_, fun a b ha' hb' hab kk hkk => ?_, h.hp⟩
  · by_cases e : k = i
    · subst e
      rw [hv]
      exact RS_move hr (fun b hb2 => far b (fun e => hn (by rw [hb2, e])))
    · rw [hv2 k hk e, hl k hk e]
      exact RS_move (h.row k hk) (fun b hb2 => far b (fun e2 => h.row_ne k hk (by rw [hb2, e2])))
  · by_cases ea : a = i
    · subst ea
      rw [hv] at hkk
      rw [hv2 b hb' (Ne.symm hab)]
      exact ha b hb' (Ne.symm hab) kk hkk
    · rw [hv2 a ha' ea] at hkk
      by_cases eb : b = i
      · subst eb
        rw [hv]
        exact fun h2 => ha a ha' ea kk h2 hkk
      · rw [hv2 b hb' eb]
        exact h.apart a b ha' hb' hab kk hkk
end Go.Proofs.Ytgdboikoejodpaa.Led
