/- The walk of the law HeadPuts: whatever the head, the number and the sizes, the program and the document put the same bytes, or refuse with the same error. -/
import Derived.Test.YtmccghadgihbpaaPlainHeadPuts
import Derived.Test.YtmccghadgihbpaaPHeadPutsx1
import Derived.Test.YtmccghadgihbpaaPar
import Derived.BigQuiet
import Derived.Deep.QuietTactic
import Derived.WalkLawsBesides
import Derived.Lib.Hide
namespace Go.Proofs.Ytmccghadgihbpaa.HeadPutsWalk
open Go.RowKit Go.Proofs.YtmccghadgihbpaaW.PrintWords Go.Proofs.YtmccghadgihbpaaW.PrintLast
open Go.Proofs.YtmccghadgihbpaaW.PrintMore
set_option linter.unusedVariables false

theorem awake (w : World) : Calls Try.prog 18 #[] w fun e w' => e = .returned (.bool true) ∧ Below w.heap.size w w' :=
  PHeadPuts.skifflaw12_Awake.calls 5 true w (by decide +kernel)

theorem box3 {w : World} {b : Nat} {x y z : Value} {T : TypeId} (h : w.heap[b]? = some (.cells #[x, y, z] T (0, 0))) :
    w.cell? ⟨b, 0, none⟩ = some x ∧ w.cell? ⟨b, 1, none⟩ = some y ∧ w.cell? ⟨b, 2, none⟩ = some z := by
  simp [World.cell?, h]


/-- One slot more. -/
def ux (x : Nat → Value) (d : Nat) (v : Value) : Nat → Value := fun j => if j = d then v else x j

def z8 : List Int := [0, 0, 0, 0, 0, 0, 0, 0]
def va (b : Nat → Bool) (x : Nat → Value) : Value := if b 4 then x 32 else if b 3 then x 31 else if b 0 then x 28 else .slice none 0 0
def la (b : Nat → Bool) (l : List Int) : List Int := if b 4 then l ++ z8 else if b 3 then l else []
def vb (b : Nat → Bool) (x : Nat → Value) : Value := if b 10 then x 38 else if b 9 then x 37 else if b 6 then x 34 else .slice none 0 0
def lb (b : Nat → Bool) (l : List Int) : List Int := if b 10 then l ++ z8 else if b 9 then l else []

abbrev RR (w : World) (B : Nat) (v : Value) (l : List Int) : Prop := Kd.R (Kd.int .u8) 5 w B (fun _ => True) v l

structure Core (w0 : World) (hb : Nat) (sp : Int) (s1 s2 : Value) (l1 l2 : List Int) (b : Nat → Bool) (x : Nat → Value) (w : World) : Prop where
  below : Below w0.heap.size w0 w
  box : w.heap[hb]? = some (.cells #[.int .i64 sp, if b 13 then x 33 else s1, if b 15 then x 39 else s2] 32 (0, 0))
  ra : RR w w0.heap.size (va b x) (la b l1)
  rb : RR w w0.heap.size (vb b x) (lb b l2)
  dis : ∀ k, (va b x).ownBlock = some k → (vb b x).ownBlock ≠ some k
  p29 : b 1 = true → x 29 = .pointer (some ⟨hb, 1, none⟩)
  p30 : b 2 = true → x 30 = s1
  p35 : b 7 = true → x 35 = .pointer (some ⟨hb, 2, none⟩)
  p36 : b 8 = true → x 36 = s2
  p40 : b 12 = true → x 40 = .pointer (some ⟨hb, 1, none⟩)
  p41 : b 14 = true → x 41 = .pointer (some ⟨hb, 2, none⟩)
  p33 : b 5 = true → ∃ A c, x 32 = .slice A (l1.length + 8) c ∧ x 33 = .slice A 8 c ∧ l1.length + 8 ≤ c
  p39 : b 11 = true → ∃ A c, x 38 = .slice A (l2.length + 8) c ∧ x 39 = .slice A 8 c ∧ l2.length + 8 ≤ c
  c3 : b 3 = true → b 0 = true ∧ b 2 = true
  c4 : b 4 = true → b 3 = true
  c5 : b 5 = true → b 4 = true
  c9 : b 9 = true → b 6 = true ∧ b 8 = true
  c10 : b 10 = true → b 9 = true
  c11 : b 11 = true → b 10 = true
  c13 : b 13 = true → b 5 = true
  c15 : b 15 = true → b 11 = true

theorem bf {p q : Bool} (h : p = true → q = true) (hq : q = false) : p = false := by cases p; rfl; rw [h rfl] at hq; cases hq

theorem keepN {w0 W w1 : World} {v : Value} {l : List Int} (hr : RR W w0.heap.size v l) (hg : W.grownBy w1 none) : RR w1 w0.heap.size v l :=
  Kd.R_grown2 hr rfl hg (fun _ h => by cases h)

theorem keepB {w0 W w1 : World} {v : Value} {l : List Int} (hr : RR W w0.heap.size v l) (u : Value) (hg : W.grownBy w1 u.ownBlock) (hne : ∀ k, u.ownBlock = some k → some k ≠ v.ownBlock) : RR w1 w0.heap.size v l :=
  Kd.R_grown2 hr rfl hg hne

theorem fresh_ne {W : World} {B : Nat} {v : Value} {l : List Int} (hr : RR W B v l) {k : Nat} (h : W.heap.size ≤ k) : v.ownBlock ≠ some k := by
  intro e
  obtain ⟨inner, ho⟩ := Kd.R_own hr
  have := own_lt ho k e
  omega


abbrev fr (v0 v1 v2 v3 v4 v5 v10 v15 v16 v17 v18 v19 v20 v21 v22 v23 v24 v25 v26 v27 : Value) (x : Nat → Value) : Act :=
  { tmps := #[v0, v1, v2, v3, v4, v5, undef, undef, undef, undef, v10, undef, undef, undef, undef, v15, v16, v17, v18, v19, v20, v21, v22, v23, v24, v25, v26, v27,
      x 28, x 29, x 30, x 31, x 32, x 33, x 34, x 35, x 36, x 37, x 38, x 39, x 40, x 41,
      undef, undef, undef, undef, undef, undef, undef, undef, undef, undef, undef, undef, undef, undef, undef, undef, undef, undef, undef, undef, undef, undef, undef, undef, undef, undef, undef, undef, undef, undef, undef, undef, undef, undef, undef, undef, undef, undef, undef, undef, undef], defers := [] }

set_option maxHeartbeats 1000000 in
theorem right (sp pn bytes size : Int) (A1 A2 : Option Addr) (c1 c2 : Nat) (l1 l2 : List Int) (w0 : World)
    (hr1 : Kd.C (Kd.int .u8) w0 A1 l1.length l1) (hc1 : l1.length ≤ c1) (hr2 : Kd.C (Kd.int .u8) w0 A2 l2.length l2) (hc2 : l2.length ≤ c2)
    (h1 : l1.length ≤ 100) (h2 : l2.length ≤ 100) :
    Calls Try.prog 6 #[.agg #[.int .i64 sp, .slice A1 l1.length c1, .slice A2 l2.length c2], .int .u64 pn, .int .i64 bytes, .int .i64 size, .bool true] w0 fun e w' => e = .returned (.bool true) ∧ Below w0.heap.size w0 w' := by
  go_enter Try.func6, Try.ntmps6
  go_wp2_with fail
  refine (awake _).mono ?_
  rintro e w1 ⟨rfl, b1⟩
  have hk := b1.block w0.heap.size (by simp) |>.trans (heap_alloc_new _ _)
  obtain ⟨k0, k1, k2⟩ := box3 hk
  have HK := Lib.hid hk
  have B1 := Lib.hid (((Below.refl w0.heap.size w0).alloc (Nat.le_refl _) _).trans (b1.mono (by simp)))
  clear hk b1
  go_wp2_with fail
  refine Par.wp_region_inv (by kernel_rfl) (fun b a w => ∃ x, a = fr _ _ _ _ _ _ _ _ _ _ _ _ _ _ _ _ _ _ _ _ x ∧ Core w0 w0.heap.size sp (.slice A1 l1.length c1) (.slice A2 l2.length c2) l1 l2 b x w) (by kernel_rfl) ⟨fun _ => undef, rfl, ?_⟩ ?_ ?_
  · refine ⟨B1.out.drew, HK.out, Kd.R_nil _ _ _ _ _, Kd.R_nil _ _ _ _ _, by simp [va, Value.ownBlock], by simp, by simp, by simp, by simp, by simp, by simp, by simp, by simp, by simp, by simp, by simp, by simp, by simp, by simp, by simp, by simp⟩
  · generalize hhb : w0.heap.size = hb at *
    have HHB := Lib.hid hhb
    clear hhb k0 k1 k2 HK B1
    intro i o ho b a w ⟨x, ha, h⟩ hbi hdep
    subst ha
    have hi : i < 16 := (Array.getElem?_eq_some_iff.1 ho).1
    rcases (by omega : i = 0 ∨ i = 1 ∨ i = 2 ∨ i = 3 ∨ i = 4 ∨ i = 5 ∨ i = 6 ∨ i = 7 ∨ i = 8 ∨ i = 9 ∨ i = 10 ∨ i = 11 ∨ i = 12 ∨ i = 13 ∨ i = 14 ∨ i = 15) with rfl | rfl | rfl | rfl | rfl | rfl | rfl | rfl | rfl | rfl | rfl | rfl | rfl | rfl | rfl | rfl

    · -- 0: buildSlice
      obtain rfl := Option.some.inj ho
      refine wpOp_step rfl (fun K hK => ?_)
      have h3 : b 3 = false := bf (fun e => (h.c3 e).1) hbi
      have h4 : b 4 = false := bf h.c4 h3
      refine Kd.R_lit_step (Kd.int .u8) (w0 := w0) w0.heap.size 5 rfl (N := 28) rfl (xs := []) (inner := []) (ok := fun _ => True) (okp := fun _ => True) (by go_simp) (Reps.none _ _) (fun _ hk => hk) trivial h.below h.below.size (by simp) ?_
      intro v1 w1 hR hB hg ⟨k, hk, hlt⟩
      refine hK _ _ ⟨ux x 28 v1, by first | rfl | (simp [ux]; done) | simp [ux, d1], ⟨?_, ?_, ?_, ?_, ?_, ?_, ?_, ?_, ?_, ?_, ?_, ?_, ?_, ?_, ?_, ?_, ?_, ?_, ?_, ?_, ?_⟩⟩
      · exact hB
      · simpa [Par.up, ux] using blk_grown h.box hg (by simp)
      · simpa [Par.up, ux, va, la, h3, h4] using hR
      · simpa [Par.up, ux, vb, lb] using keepN h.rb hg
      · intro j hj hj2
        have e : va (Par.up b 0) (ux x 28 v1) = v1 := by simp [va, Par.up, ux, h3, h4]
        have e2 : vb (Par.up b 0) (ux x 28 v1) = vb b x := by simp [vb, Par.up, ux]
        rw [e] at hj
        rw [e2] at hj2
        rw [hk] at hj
        injection hj with hjj
        subst hjj
        exact fresh_ne h.rb hlt hj2
      · simpa [Par.up, ux, va, la, vb, lb] using h.p29
      · simpa [Par.up, ux, va, la, vb, lb] using h.p30
      · simpa [Par.up, ux, va, la, vb, lb] using h.p35
      · simpa [Par.up, ux, va, la, vb, lb] using h.p36
      · simpa [Par.up, ux, va, la, vb, lb] using h.p40
      · simpa [Par.up, ux, va, la, vb, lb] using h.p41
      · simpa [Par.up, ux, va, la, vb, lb] using h.p33
      · simpa [Par.up, ux, va, la, vb, lb] using h.p39
      · simpa [Par.up, ux] using fun e => (h.c3 e).2
      · simpa [Par.up, ux, va, la, vb, lb] using h.c4
      · simpa [Par.up, ux, va, la, vb, lb] using h.c5
      · simpa [Par.up, ux, va, la, vb, lb] using h.c9
      · simpa [Par.up, ux, va, la, vb, lb] using h.c10
      · simpa [Par.up, ux, va, la, vb, lb] using h.c11
      · simpa [Par.up, ux, va, la, vb, lb] using h.c13
      · simpa [Par.up, ux, va, la, vb, lb] using h.c15

    · -- 1: fieldAddr
      obtain rfl := Option.some.inj ho
      refine wpOp_step rfl (fun K hK => ?_)
      go_simp
      refine hK _ _ ⟨ux x 29 (.pointer (some ⟨hb, 1, none⟩)), by first | rfl | (simp [ux]; done) | simp [ux, d1], ⟨?_, ?_, ?_, ?_, ?_, ?_, ?_, ?_, ?_, ?_, ?_, ?_, ?_, ?_, ?_, ?_, ?_, ?_, ?_, ?_, ?_⟩⟩
      · simpa [Par.up, ux, va, la, vb, lb] using h.below
      · simpa [Par.up, ux, va, la, vb, lb] using h.box
      · simpa [Par.up, ux, va, la, vb, lb] using h.ra
      · simpa [Par.up, ux, va, la, vb, lb] using h.rb
      · simpa [Par.up, ux, va, la, vb, lb] using h.dis
      · exact fun _ => rfl
      · simpa [Par.up, ux, va, la, vb, lb] using h.p30
      · simpa [Par.up, ux, va, la, vb, lb] using h.p35
      · simpa [Par.up, ux, va, la, vb, lb] using h.p36
      · simpa [Par.up, ux, va, la, vb, lb] using h.p40
      · simpa [Par.up, ux, va, la, vb, lb] using h.p41
      · simpa [Par.up, ux, va, la, vb, lb] using h.p33
      · simpa [Par.up, ux, va, la, vb, lb] using h.p39
      · simpa [Par.up, ux, va, la, vb, lb] using h.c3
      · simpa [Par.up, ux, va, la, vb, lb] using h.c4
      · simpa [Par.up, ux, va, la, vb, lb] using h.c5
      · simpa [Par.up, ux, va, la, vb, lb] using h.c9
      · simpa [Par.up, ux, va, la, vb, lb] using h.c10
      · simpa [Par.up, ux, va, la, vb, lb] using h.c11
      · simpa [Par.up, ux, va, la, vb, lb] using h.c13
      · simpa [Par.up, ux, va, la, vb, lb] using h.c15

    · -- 2: load
      obtain rfl := Option.some.inj ho
      refine wpOp_step rfl (fun K hK => ?_)
      have d1 := h.p29 (hdep ⟨1, .data⟩ (by simp) rfl)
      have h3 : b 3 = false := bf (fun e => (h.c3 e).2) hbi
      have h13 : b 13 = false := bf h.c13 (bf h.c5 (bf h.c4 h3))
      have hcell := blk_cell h.box 1
      simp only [h13] at hcell
      go_simp
      refine hK _ _ ⟨ux x 30 (.slice A1 l1.length c1), by first | rfl | (simp [ux]; done) | simp [ux, d1], ⟨?_, ?_, ?_, ?_, ?_, ?_, ?_, ?_, ?_, ?_, ?_, ?_, ?_, ?_, ?_, ?_, ?_, ?_, ?_, ?_, ?_⟩⟩
      · simpa [Par.up, ux, va, la, vb, lb] using h.below
      · simpa [Par.up, ux, va, la, vb, lb] using h.box
      · simpa [Par.up, ux, va, la, vb, lb] using h.ra
      · simpa [Par.up, ux, va, la, vb, lb] using h.rb
      · simpa [Par.up, ux, va, la, vb, lb] using h.dis
      · simpa [Par.up, ux, va, la, vb, lb] using h.p29
      · exact fun _ => rfl
      · simpa [Par.up, ux, va, la, vb, lb] using h.p35
      · simpa [Par.up, ux, va, la, vb, lb] using h.p36
      · simpa [Par.up, ux, va, la, vb, lb] using h.p40
      · simpa [Par.up, ux, va, la, vb, lb] using h.p41
      · simpa [Par.up, ux, va, la, vb, lb] using h.p33
      · simpa [Par.up, ux, va, la, vb, lb] using h.p39
      · simpa [Par.up] using fun e => (h.c3 e).1
      · simpa [Par.up, ux, va, la, vb, lb] using h.c4
      · simpa [Par.up, ux, va, la, vb, lb] using h.c5
      · simpa [Par.up, ux, va, la, vb, lb] using h.c9
      · simpa [Par.up, ux, va, la, vb, lb] using h.c10
      · simpa [Par.up, ux, va, la, vb, lb] using h.c11
      · simpa [Par.up, ux, va, la, vb, lb] using h.c13
      · simpa [Par.up, ux, va, la, vb, lb] using h.c15

    · -- 3: append
      obtain rfl := Option.some.inj ho
      refine wpOp_step rfl (fun K hK => ?_)
      have d0 : b 0 = true := hdep ⟨0, .data⟩ (by simp) rfl
      have d2 : b 2 = true := hdep ⟨2, .data⟩ (by simp) rfl
      have h4 : b 4 = false := bf h.c4 hbi
      have e0 : va b x = x 28 := by simp [va, hbi, h4, d0]
      have el : la b l1 = [] := by simp [la, hbi, h4]
      have r0 := h.ra
      rw [e0, el] at r0
      have ex := h.p30 d2
      refine Kd.R_append_rows_step (Kd.int .u8) (w0 := w0) w0.heap.size rfl (.tmp 28) (.tmp 30) 30 5 (.int .u8 0) 1 rfl Try.underlying30 PHeadPuts.info5 rfl (by decide) (by decide) (x 28) [] l1 A1 l1.length c1 (fun _ => True) (fun k => some k ≠ (x 28).ownBlock) rfl ex r0 (Kd.C_below hr1 h.below) (fun _ _ hh => hh) (fun _ hk => ⟨trivial, hk⟩) (fun _ _ => trivial) h.below h.below.size (by simp; omega) ?_
      intro v1 w1 hR hB hg hat
      rw [← e0] at hg hat
      refine hK _ _ ⟨ux x 31 v1, by first | rfl | (simp [ux]; done) | simp [ux, d1], ⟨?_, ?_, ?_, ?_, ?_, ?_, ?_, ?_, ?_, ?_, ?_, ?_, ?_, ?_, ?_, ?_, ?_, ?_, ?_, ?_, ?_⟩⟩
      · exact hB
      · simpa [Par.up, ux] using blk_grown h.box hg (Kd.R_ne h.ra h.box (by decide))
      · simpa [Par.up, ux, va, la, h4] using hR
      · simpa [Par.up, ux, vb, lb] using keepB h.rb _ hg (fun k hk e => h.dis k hk e.symm)
      · intro j hj hj2
        have e : va (Par.up b 3) (ux x 31 v1) = v1 := by simp [va, Par.up, ux, h4]
        have e2 : vb (Par.up b 3) (ux x 31 v1) = vb b x := by simp [vb, Par.up, ux]
        rw [e] at hj
        rw [e2] at hj2
        rcases hat with hat | ⟨k, hk, hlt⟩
        · rw [hat] at hj
          exact h.dis j hj hj2
        · rw [hk] at hj
          injection hj with hjj
          subst hjj
          exact fresh_ne h.rb hlt hj2
      · simpa [Par.up, ux, va, la, vb, lb] using h.p29
      · simpa [Par.up, ux, va, la, vb, lb] using h.p30
      · simpa [Par.up, ux, va, la, vb, lb] using h.p35
      · simpa [Par.up, ux, va, la, vb, lb] using h.p36
      · simpa [Par.up, ux, va, la, vb, lb] using h.p40
      · simpa [Par.up, ux, va, la, vb, lb] using h.p41
      · simpa [Par.up, ux, va, la, vb, lb] using h.p33
      · simpa [Par.up, ux, va, la, vb, lb] using h.p39
      · exact fun _ => ⟨by simpa [Par.up] using d0, by simpa [Par.up] using d2⟩
      · simp [Par.up, h4]
      · simpa [Par.up, ux, va, la, vb, lb] using h.c5
      · simpa [Par.up, ux, va, la, vb, lb] using h.c9
      · simpa [Par.up, ux, va, la, vb, lb] using h.c10
      · simpa [Par.up, ux, va, la, vb, lb] using h.c11
      · simpa [Par.up, ux, va, la, vb, lb] using h.c13
      · simpa [Par.up, ux, va, la, vb, lb] using h.c15

    · -- 4: append
      obtain rfl := Option.some.inj ho
      refine wpOp_step rfl (fun K hK => ?_)
      have d3 : b 3 = true := hdep ⟨3, .data⟩ (by simp) rfl
      have e0 : va b x = x 31 := by simp [va, hbi, d3]
      have el : la b l1 = l1 := by simp [la, hbi, d3]
      have r0 := h.ra
      rw [e0, el] at r0
      refine Kd.R_append_zeros_step (Kd.int .u8) (w0 := w0) w0.heap.size rfl (.tmp 31) (.const (.int .i64 8)) 30 3 5 (.int .u8 0) 1 rfl Try.underlying30 (k := .i64) Try.underlying3 PHeadPuts.info5 rfl (by decide) (by decide) (x 31) l1 (0 : Int) 8 (fun _ => True) rfl rfl rfl (fun _ _ => trivial) r0 (by decide) h.below h.below.size (by simp; omega) ?_
      intro v1 w1 hR hB hg hat
      rw [← e0] at hg hat
      refine hK _ _ ⟨ux x 32 v1, by first | rfl | (simp [ux]; done) | simp [ux, d1], ⟨?_, ?_, ?_, ?_, ?_, ?_, ?_, ?_, ?_, ?_, ?_, ?_, ?_, ?_, ?_, ?_, ?_, ?_, ?_, ?_, ?_⟩⟩
      · exact hB
      · simpa [Par.up, ux] using blk_grown h.box hg (Kd.R_ne h.ra h.box (by decide))
      · simpa [Par.up, ux, va, la, z8] using hR
      · simpa [Par.up, ux, vb, lb] using keepB h.rb _ hg (fun k hk e => h.dis k hk e.symm)
      · intro j hj hj2
        have e : va (Par.up b 4) (ux x 32 v1) = v1 := by simp [va, Par.up, ux]
        have e2 : vb (Par.up b 4) (ux x 32 v1) = vb b x := by simp [vb, Par.up, ux]
        rw [e] at hj
        rw [e2] at hj2
        rcases hat with hat | ⟨k, hk, hlt⟩
        · rw [hat] at hj
          exact h.dis j hj hj2
        · rw [hk] at hj
          injection hj with hjj
          subst hjj
          exact fresh_ne h.rb hlt hj2
      · simpa [Par.up, ux, va, la, vb, lb] using h.p29
      · simpa [Par.up, ux, va, la, vb, lb] using h.p30
      · simpa [Par.up, ux, va, la, vb, lb] using h.p35
      · simpa [Par.up, ux, va, la, vb, lb] using h.p36
      · simpa [Par.up, ux, va, la, vb, lb] using h.p40
      · simpa [Par.up, ux, va, la, vb, lb] using h.p41
      · intro e
        have e5 : b 5 = true := by simpa [Par.up] using e
        have := h.c5 e5
        rw [hbi] at this
        cases this
      · simpa [Par.up, ux, va, la, vb, lb] using h.p39
      · simpa [Par.up, ux, va, la, vb, lb] using h.c3
      · simpa [Par.up] using d3
      · simp [Par.up]
      · simpa [Par.up, ux, va, la, vb, lb] using h.c9
      · simpa [Par.up, ux, va, la, vb, lb] using h.c10
      · simpa [Par.up, ux, va, la, vb, lb] using h.c11
      · simpa [Par.up, ux, va, la, vb, lb] using h.c13
      · simpa [Par.up, ux, va, la, vb, lb] using h.c15

    · -- 5: slice
      obtain rfl := Option.some.inj ho
      refine wpOp_step rfl (fun K hK => ?_)
      have d4 : b 4 = true := hdep ⟨4, .data⟩ (by simp) rfl
      have r0 := h.ra
      simp only [va, la, d4, if_true] at r0
      obtain ⟨A, c, ex, hc, _⟩ := Kd.R_reads r0
      have hl : (l1 ++ z8).length = l1.length + 8 := by simp [z8]
      rw [hl] at ex hc
      have h13 : b 13 = false := bf h.c13 hbi
      refine event_step (v := .slice A 8 c) (w1 := w) rfl ?_ ?_
      · go_simp
        intro hh
        omega
      · refine hK _ _ ⟨ux x 33 (.slice A 8 c), by first | rfl | (simp [ux]; done) | simp [ux, d1], ⟨?_, ?_, ?_, ?_, ?_, ?_, ?_, ?_, ?_, ?_, ?_, ?_, ?_, ?_, ?_, ?_, ?_, ?_, ?_, ?_, ?_⟩⟩
        · simpa [Par.up, ux, va, la, vb, lb] using h.below
        · simpa [Par.up, ux, h13] using h.box
        · simpa [Par.up, ux, va, la, vb, lb] using h.ra
        · simpa [Par.up, ux, va, la, vb, lb] using h.rb
        · simpa [Par.up, ux, va, la, vb, lb] using h.dis
        · simpa [Par.up, ux, va, la, vb, lb] using h.p29
        · simpa [Par.up, ux, va, la, vb, lb] using h.p30
        · simpa [Par.up, ux, va, la, vb, lb] using h.p35
        · simpa [Par.up, ux, va, la, vb, lb] using h.p36
        · simpa [Par.up, ux, va, la, vb, lb] using h.p40
        · simpa [Par.up, ux, va, la, vb, lb] using h.p41
        · exact fun _ => ⟨A, c, by simpa [ux] using ex, by simp [ux], hc⟩
        · simpa [Par.up, ux, va, la, vb, lb] using h.p39
        · simpa [Par.up, ux, va, la, vb, lb] using h.c3
        · simpa [Par.up, ux, va, la, vb, lb] using h.c4
        · simpa [Par.up] using d4
        · simpa [Par.up, ux, va, la, vb, lb] using h.c9
        · simpa [Par.up, ux, va, la, vb, lb] using h.c10
        · simpa [Par.up, ux, va, la, vb, lb] using h.c11
        · simp [Par.up, h13]
        · simpa [Par.up, ux, va, la, vb, lb] using h.c15

    · -- 6: buildSlice
      obtain rfl := Option.some.inj ho
      refine wpOp_step rfl (fun K hK => ?_)
      have h3 : b 9 = false := bf (fun e => (h.c9 e).1) hbi
      have h4 : b 10 = false := bf h.c10 h3
      refine Kd.R_lit_step (Kd.int .u8) (w0 := w0) w0.heap.size 5 rfl (N := 34) rfl (xs := []) (inner := []) (ok := fun _ => True) (okp := fun _ => True) (by go_simp) (Reps.none _ _) (fun _ hk => hk) trivial h.below h.below.size (by simp) ?_
      intro v1 w1 hR hB hg ⟨k, hk, hlt⟩
      refine hK _ _ ⟨ux x 34 v1, by first | rfl | (simp [ux]; done) | simp [ux, d1], ⟨?_, ?_, ?_, ?_, ?_, ?_, ?_, ?_, ?_, ?_, ?_, ?_, ?_, ?_, ?_, ?_, ?_, ?_, ?_, ?_, ?_⟩⟩
      · exact hB
      · simpa [Par.up, ux] using blk_grown h.box hg (by simp)
      · simpa [Par.up, ux, va, la] using keepN h.ra hg
      · simpa [Par.up, ux, vb, lb, h3, h4] using hR
      · intro j hj hj2
        have e : vb (Par.up b 6) (ux x 34 v1) = v1 := by simp [vb, Par.up, ux, h3, h4]
        have e2 : va (Par.up b 6) (ux x 34 v1) = va b x := by simp [va, Par.up, ux]
        rw [e2] at hj
        rw [e] at hj2
        rw [hk] at hj2
        injection hj2 with hjj
        subst hjj
        exact fresh_ne h.ra hlt hj
      · simpa [Par.up, ux, va, la, vb, lb] using h.p29
      · simpa [Par.up, ux, va, la, vb, lb] using h.p30
      · simpa [Par.up, ux, va, la, vb, lb] using h.p35
      · simpa [Par.up, ux, va, la, vb, lb] using h.p36
      · simpa [Par.up, ux, va, la, vb, lb] using h.p40
      · simpa [Par.up, ux, va, la, vb, lb] using h.p41
      · simpa [Par.up, ux, va, la, vb, lb] using h.p33
      · simpa [Par.up, ux, va, la, vb, lb] using h.p39
      · simpa [Par.up, ux, va, la, vb, lb] using h.c3
      · simpa [Par.up, ux, va, la, vb, lb] using h.c4
      · simpa [Par.up, ux, va, la, vb, lb] using h.c5
      · simpa [Par.up, ux] using fun e => (h.c9 e).2
      · simpa [Par.up, ux, va, la, vb, lb] using h.c10
      · simpa [Par.up, ux, va, la, vb, lb] using h.c11
      · simpa [Par.up, ux, va, la, vb, lb] using h.c13
      · simpa [Par.up, ux, va, la, vb, lb] using h.c15

    · -- 7: fieldAddr
      obtain rfl := Option.some.inj ho
      refine wpOp_step rfl (fun K hK => ?_)
      go_simp
      refine hK _ _ ⟨ux x 35 (.pointer (some ⟨hb, 2, none⟩)), by first | rfl | (simp [ux]; done) | simp [ux, d1], ⟨?_, ?_, ?_, ?_, ?_, ?_, ?_, ?_, ?_, ?_, ?_, ?_, ?_, ?_, ?_, ?_, ?_, ?_, ?_, ?_, ?_⟩⟩
      · simpa [Par.up, ux, va, la, vb, lb] using h.below
      · simpa [Par.up, ux, va, la, vb, lb] using h.box
      · simpa [Par.up, ux, va, la, vb, lb] using h.ra
      · simpa [Par.up, ux, va, la, vb, lb] using h.rb
      · simpa [Par.up, ux, va, la, vb, lb] using h.dis
      · simpa [Par.up, ux, va, la, vb, lb] using h.p29
      · simpa [Par.up, ux, va, la, vb, lb] using h.p30
      · exact fun _ => rfl
      · simpa [Par.up, ux, va, la, vb, lb] using h.p36
      · simpa [Par.up, ux, va, la, vb, lb] using h.p40
      · simpa [Par.up, ux, va, la, vb, lb] using h.p41
      · simpa [Par.up, ux, va, la, vb, lb] using h.p33
      · simpa [Par.up, ux, va, la, vb, lb] using h.p39
      · simpa [Par.up, ux, va, la, vb, lb] using h.c3
      · simpa [Par.up, ux, va, la, vb, lb] using h.c4
      · simpa [Par.up, ux, va, la, vb, lb] using h.c5
      · simpa [Par.up, ux, va, la, vb, lb] using h.c9
      · simpa [Par.up, ux, va, la, vb, lb] using h.c10
      · simpa [Par.up, ux, va, la, vb, lb] using h.c11
      · simpa [Par.up, ux, va, la, vb, lb] using h.c13
      · simpa [Par.up, ux, va, la, vb, lb] using h.c15

    · -- 8: load
      obtain rfl := Option.some.inj ho
      refine wpOp_step rfl (fun K hK => ?_)
      have d1 := h.p35 (hdep ⟨7, .data⟩ (by simp) rfl)
      have h9 : b 9 = false := bf (fun e => (h.c9 e).2) hbi
      have h15 : b 15 = false := bf h.c15 (bf h.c11 (bf h.c10 h9))
      have hcell := blk_cell h.box 2
      simp only [h15] at hcell
      go_simp
      refine hK _ _ ⟨ux x 36 (.slice A2 l2.length c2), by first | rfl | (simp [ux]; done) | simp [ux, d1], ⟨?_, ?_, ?_, ?_, ?_, ?_, ?_, ?_, ?_, ?_, ?_, ?_, ?_, ?_, ?_, ?_, ?_, ?_, ?_, ?_, ?_⟩⟩
      · simpa [Par.up, ux, va, la, vb, lb] using h.below
      · simpa [Par.up, ux, va, la, vb, lb] using h.box
      · simpa [Par.up, ux, va, la, vb, lb] using h.ra
      · simpa [Par.up, ux, va, la, vb, lb] using h.rb
      · simpa [Par.up, ux, va, la, vb, lb] using h.dis
      · simpa [Par.up, ux, va, la, vb, lb] using h.p29
      · simpa [Par.up, ux, va, la, vb, lb] using h.p30
      · simpa [Par.up, ux, va, la, vb, lb] using h.p35
      · exact fun _ => rfl
      · simpa [Par.up, ux, va, la, vb, lb] using h.p40
      · simpa [Par.up, ux, va, la, vb, lb] using h.p41
      · simpa [Par.up, ux, va, la, vb, lb] using h.p33
      · simpa [Par.up, ux, va, la, vb, lb] using h.p39
      · simpa [Par.up, ux, va, la, vb, lb] using h.c3
      · simpa [Par.up, ux, va, la, vb, lb] using h.c4
      · simpa [Par.up, ux, va, la, vb, lb] using h.c5
      · simpa [Par.up] using fun e => (h.c9 e).1
      · simpa [Par.up, ux, va, la, vb, lb] using h.c10
      · simpa [Par.up, ux, va, la, vb, lb] using h.c11
      · simpa [Par.up, ux, va, la, vb, lb] using h.c13
      · simpa [Par.up, ux, va, la, vb, lb] using h.c15

    · -- 9: append
      obtain rfl := Option.some.inj ho
      refine wpOp_step rfl (fun K hK => ?_)
      have d0 : b 6 = true := hdep ⟨6, .data⟩ (by simp) rfl
      have d2 : b 8 = true := hdep ⟨8, .data⟩ (by simp) rfl
      have h4 : b 10 = false := bf h.c10 hbi
      have e0 : vb b x = x 34 := by simp [vb, hbi, h4, d0]
      have el : lb b l2 = [] := by simp [lb, hbi, h4]
      have r0 := h.rb
      rw [e0, el] at r0
      have ex := h.p36 d2
      refine Kd.R_append_rows_step (Kd.int .u8) (w0 := w0) w0.heap.size rfl (.tmp 34) (.tmp 36) 30 5 (.int .u8 0) 1 rfl Try.underlying30 PHeadPuts.info5 rfl (by decide) (by decide) (x 34) [] l2 A2 l2.length c2 (fun _ => True) (fun k => some k ≠ (x 34).ownBlock) rfl ex r0 (Kd.C_below hr2 h.below) (fun _ _ hh => hh) (fun _ hk => ⟨trivial, hk⟩) (fun _ _ => trivial) h.below h.below.size (by simp; omega) ?_
      intro v1 w1 hR hB hg hat
      rw [← e0] at hg hat
      refine hK _ _ ⟨ux x 37 v1, by first | rfl | (simp [ux]; done) | simp [ux, d1], ⟨?_, ?_, ?_, ?_, ?_, ?_, ?_, ?_, ?_, ?_, ?_, ?_, ?_, ?_, ?_, ?_, ?_, ?_, ?_, ?_, ?_⟩⟩
      · exact hB
      · simpa [Par.up, ux] using blk_grown h.box hg (Kd.R_ne h.rb h.box (by decide))
      · simpa [Par.up, ux, va, la] using keepB h.ra _ hg (fun k hk e => h.dis k e.symm hk)
      · simpa [Par.up, ux, vb, lb, h4] using hR
      · intro j hj hj2
        have e : vb (Par.up b 9) (ux x 37 v1) = v1 := by simp [vb, Par.up, ux, h4]
        have e2 : va (Par.up b 9) (ux x 37 v1) = va b x := by simp [va, Par.up, ux]
        rw [e2] at hj
        rw [e] at hj2
        rcases hat with hat | ⟨k, hk, hlt⟩
        · rw [hat] at hj2
          exact h.dis j hj hj2
        · rw [hk] at hj2
          injection hj2 with hjj
          subst hjj
          exact fresh_ne h.ra hlt hj
      · simpa [Par.up, ux, va, la, vb, lb] using h.p29
      · simpa [Par.up, ux, va, la, vb, lb] using h.p30
      · simpa [Par.up, ux, va, la, vb, lb] using h.p35
      · simpa [Par.up, ux, va, la, vb, lb] using h.p36
      · simpa [Par.up, ux, va, la, vb, lb] using h.p40
      · simpa [Par.up, ux, va, la, vb, lb] using h.p41
      · simpa [Par.up, ux, va, la, vb, lb] using h.p33
      · simpa [Par.up, ux, va, la, vb, lb] using h.p39
      · simpa [Par.up, ux, va, la, vb, lb] using h.c3
      · simpa [Par.up, ux, va, la, vb, lb] using h.c4
      · simpa [Par.up, ux, va, la, vb, lb] using h.c5
      · exact fun _ => ⟨by simpa [Par.up] using d0, by simpa [Par.up] using d2⟩
      · simp [Par.up, h4]
      · simpa [Par.up, ux, va, la, vb, lb] using h.c11
      · simpa [Par.up, ux, va, la, vb, lb] using h.c13
      · simpa [Par.up, ux, va, la, vb, lb] using h.c15

    · -- 10: append
      obtain rfl := Option.some.inj ho
      refine wpOp_step rfl (fun K hK => ?_)
      have d3 : b 9 = true := hdep ⟨9, .data⟩ (by simp) rfl
      have e0 : vb b x = x 37 := by simp [vb, hbi, d3]
      have el : lb b l2 = l2 := by simp [lb, hbi, d3]
      have r0 := h.rb
      rw [e0, el] at r0
      refine Kd.R_append_zeros_step (Kd.int .u8) (w0 := w0) w0.heap.size rfl (.tmp 37) (.const (.int .i64 8)) 30 3 5 (.int .u8 0) 1 rfl Try.underlying30 (k := .i64) Try.underlying3 PHeadPuts.info5 rfl (by decide) (by decide) (x 37) l2 (0 : Int) 8 (fun _ => True) rfl rfl rfl (fun _ _ => trivial) r0 (by decide) h.below h.below.size (by simp; omega) ?_
      intro v1 w1 hR hB hg hat
      rw [← e0] at hg hat
      refine hK _ _ ⟨ux x 38 v1, by first | rfl | (simp [ux]; done) | simp [ux, d1], ⟨?_, ?_, ?_, ?_, ?_, ?_, ?_, ?_, ?_, ?_, ?_, ?_, ?_, ?_, ?_, ?_, ?_, ?_, ?_, ?_, ?_⟩⟩
      · exact hB
      · simpa [Par.up, ux] using blk_grown h.box hg (Kd.R_ne h.rb h.box (by decide))
      · simpa [Par.up, ux, va, la] using keepB h.ra _ hg (fun k hk e => h.dis k e.symm hk)
      · simpa [Par.up, ux, vb, lb, z8] using hR
      · intro j hj hj2
        have e : vb (Par.up b 10) (ux x 38 v1) = v1 := by simp [vb, Par.up, ux]
        have e2 : va (Par.up b 10) (ux x 38 v1) = va b x := by simp [va, Par.up, ux]
        rw [e2] at hj
        rw [e] at hj2
        rcases hat with hat | ⟨k, hk, hlt⟩
        · rw [hat] at hj2
          exact h.dis j hj hj2
        · rw [hk] at hj2
          injection hj2 with hjj
          subst hjj
          exact fresh_ne h.ra hlt hj
      · simpa [Par.up, ux, va, la, vb, lb] using h.p29
      · simpa [Par.up, ux, va, la, vb, lb] using h.p30
      · simpa [Par.up, ux, va, la, vb, lb] using h.p35
      · simpa [Par.up, ux, va, la, vb, lb] using h.p36
      · simpa [Par.up, ux, va, la, vb, lb] using h.p40
      · simpa [Par.up, ux, va, la, vb, lb] using h.p41
      · simpa [Par.up, ux, va, la, vb, lb] using h.p33
      · intro e
        have e5 : b 11 = true := by simpa [Par.up] using e
        have := h.c11 e5
        rw [hbi] at this
        cases this
      · simpa [Par.up, ux, va, la, vb, lb] using h.c3
      · simpa [Par.up, ux, va, la, vb, lb] using h.c4
      · simpa [Par.up, ux, va, la, vb, lb] using h.c5
      · simpa [Par.up, ux, va, la, vb, lb] using h.c9
      · simpa [Par.up] using d3
      · simp [Par.up]
      · simpa [Par.up, ux, va, la, vb, lb] using h.c13
      · simpa [Par.up, ux, va, la, vb, lb] using h.c15

    · -- 11: slice
      obtain rfl := Option.some.inj ho
      refine wpOp_step rfl (fun K hK => ?_)
      have d4 : b 10 = true := hdep ⟨10, .data⟩ (by simp) rfl
      have r0 := h.rb
      simp only [vb, lb, d4, if_true] at r0
      obtain ⟨A, c, ex, hc, _⟩ := Kd.R_reads r0
      have hl : (l2 ++ z8).length = l2.length + 8 := by simp [z8]
      rw [hl] at ex hc
      have h13 : b 15 = false := bf h.c15 hbi
      refine event_step (v := .slice A 8 c) (w1 := w) rfl ?_ ?_
      · go_simp
        intro hh
        omega
      · refine hK _ _ ⟨ux x 39 (.slice A 8 c), by first | rfl | (simp [ux]; done) | simp [ux, d1], ⟨?_, ?_, ?_, ?_, ?_, ?_, ?_, ?_, ?_, ?_, ?_, ?_, ?_, ?_, ?_, ?_, ?_, ?_, ?_, ?_, ?_⟩⟩
        · simpa [Par.up, ux, va, la, vb, lb] using h.below
        · simpa [Par.up, ux, h13] using h.box
        · simpa [Par.up, ux, va, la, vb, lb] using h.ra
        · simpa [Par.up, ux, va, la, vb, lb] using h.rb
        · simpa [Par.up, ux, va, la, vb, lb] using h.dis
        · simpa [Par.up, ux, va, la, vb, lb] using h.p29
        · simpa [Par.up, ux, va, la, vb, lb] using h.p30
        · simpa [Par.up, ux, va, la, vb, lb] using h.p35
        · simpa [Par.up, ux, va, la, vb, lb] using h.p36
        · simpa [Par.up, ux, va, la, vb, lb] using h.p40
        · simpa [Par.up, ux, va, la, vb, lb] using h.p41
        · simpa [Par.up, ux, va, la, vb, lb] using h.p33
        · exact fun _ => ⟨A, c, by simpa [ux] using ex, by simp [ux], hc⟩
        · simpa [Par.up, ux, va, la, vb, lb] using h.c3
        · simpa [Par.up, ux, va, la, vb, lb] using h.c4
        · simpa [Par.up, ux, va, la, vb, lb] using h.c5
        · simpa [Par.up, ux, va, la, vb, lb] using h.c9
        · simpa [Par.up, ux, va, la, vb, lb] using h.c10
        · simpa [Par.up] using d4
        · simpa [Par.up, ux, va, la, vb, lb] using h.c13
        · simp [Par.up, h13]

    · -- 12: fieldAddr
      obtain rfl := Option.some.inj ho
      refine wpOp_step rfl (fun K hK => ?_)
      go_simp
      refine hK _ _ ⟨ux x 40 (.pointer (some ⟨hb, 1, none⟩)), by first | rfl | (simp [ux]; done) | simp [ux, d1], ⟨?_, ?_, ?_, ?_, ?_, ?_, ?_, ?_, ?_, ?_, ?_, ?_, ?_, ?_, ?_, ?_, ?_, ?_, ?_, ?_, ?_⟩⟩
      · simpa [Par.up, ux, va, la, vb, lb] using h.below
      · simpa [Par.up, ux, va, la, vb, lb] using h.box
      · simpa [Par.up, ux, va, la, vb, lb] using h.ra
      · simpa [Par.up, ux, va, la, vb, lb] using h.rb
      · simpa [Par.up, ux, va, la, vb, lb] using h.dis
      · simpa [Par.up, ux, va, la, vb, lb] using h.p29
      · simpa [Par.up, ux, va, la, vb, lb] using h.p30
      · simpa [Par.up, ux, va, la, vb, lb] using h.p35
      · simpa [Par.up, ux, va, la, vb, lb] using h.p36
      · exact fun _ => rfl
      · simpa [Par.up, ux, va, la, vb, lb] using h.p41
      · simpa [Par.up, ux, va, la, vb, lb] using h.p33
      · simpa [Par.up, ux, va, la, vb, lb] using h.p39
      · simpa [Par.up, ux, va, la, vb, lb] using h.c3
      · simpa [Par.up, ux, va, la, vb, lb] using h.c4
      · simpa [Par.up, ux, va, la, vb, lb] using h.c5
      · simpa [Par.up, ux, va, la, vb, lb] using h.c9
      · simpa [Par.up, ux, va, la, vb, lb] using h.c10
      · simpa [Par.up, ux, va, la, vb, lb] using h.c11
      · simpa [Par.up, ux, va, la, vb, lb] using h.c13
      · simpa [Par.up, ux, va, la, vb, lb] using h.c15

    · -- 13: store
      obtain rfl := Option.some.inj ho
      refine wpOp_step rfl (fun K hK => ?_)
      have da : b 12 = true := hdep ⟨12, .data⟩ (by simp) rfl
      have dv : b 5 = true := hdep ⟨5, .data⟩ (by simp) rfl
      have ea := h.p40 da
      obtain ⟨A, c, ex, ev, hc⟩ := h.p33 dv
      have hcell := blk_cell h.box 1
      have hfr := blk_frozen h.box 1
      go_simp
      refine hK _ _ ⟨x, rfl, ⟨?_, ?_, ?_, ?_, ?_, ?_, ?_, ?_, ?_, ?_, ?_, ?_, ?_, ?_, ?_, ?_, ?_, ?_, ?_, ?_, ?_⟩⟩
      · exact h.below.setCell (Nat.le_of_eq HHB.out) _
      · simpa [Par.up, ev] using blk_set h.box 1 (Value.slice A 8 c)
      · simpa [Par.up, va, la] using Kd.R_set h.ra h.box (by decide) _ _
      · simpa [Par.up, vb, lb] using Kd.R_set h.rb h.box (by decide) _ _
      · simpa [Par.up, ux, va, la, vb, lb] using h.dis
      · simpa [Par.up, ux, va, la, vb, lb] using h.p29
      · simpa [Par.up, ux, va, la, vb, lb] using h.p30
      · simpa [Par.up, ux, va, la, vb, lb] using h.p35
      · simpa [Par.up, ux, va, la, vb, lb] using h.p36
      · simpa [Par.up, ux, va, la, vb, lb] using h.p40
      · simpa [Par.up, ux, va, la, vb, lb] using h.p41
      · simpa [Par.up, ux, va, la, vb, lb] using h.p33
      · simpa [Par.up, ux, va, la, vb, lb] using h.p39
      · simpa [Par.up, ux, va, la, vb, lb] using h.c3
      · simpa [Par.up, ux, va, la, vb, lb] using h.c4
      · simpa [Par.up, ux, va, la, vb, lb] using h.c5
      · simpa [Par.up, ux, va, la, vb, lb] using h.c9
      · simpa [Par.up, ux, va, la, vb, lb] using h.c10
      · simpa [Par.up, ux, va, la, vb, lb] using h.c11
      · simpa [Par.up] using dv
      · simpa [Par.up, ux, va, la, vb, lb] using h.c15

    · -- 14: fieldAddr
      obtain rfl := Option.some.inj ho
      refine wpOp_step rfl (fun K hK => ?_)
      go_simp
      refine hK _ _ ⟨ux x 41 (.pointer (some ⟨hb, 2, none⟩)), by first | rfl | (simp [ux]; done) | simp [ux, d1], ⟨?_, ?_, ?_, ?_, ?_, ?_, ?_, ?_, ?_, ?_, ?_, ?_, ?_, ?_, ?_, ?_, ?_, ?_, ?_, ?_, ?_⟩⟩
      · simpa [Par.up, ux, va, la, vb, lb] using h.below
      · simpa [Par.up, ux, va, la, vb, lb] using h.box
      · simpa [Par.up, ux, va, la, vb, lb] using h.ra
      · simpa [Par.up, ux, va, la, vb, lb] using h.rb
      · simpa [Par.up, ux, va, la, vb, lb] using h.dis
      · simpa [Par.up, ux, va, la, vb, lb] using h.p29
      · simpa [Par.up, ux, va, la, vb, lb] using h.p30
      · simpa [Par.up, ux, va, la, vb, lb] using h.p35
      · simpa [Par.up, ux, va, la, vb, lb] using h.p36
      · simpa [Par.up, ux, va, la, vb, lb] using h.p40
      · exact fun _ => rfl
      · simpa [Par.up, ux, va, la, vb, lb] using h.p33
      · simpa [Par.up, ux, va, la, vb, lb] using h.p39
      · simpa [Par.up, ux, va, la, vb, lb] using h.c3
      · simpa [Par.up, ux, va, la, vb, lb] using h.c4
      · simpa [Par.up, ux, va, la, vb, lb] using h.c5
      · simpa [Par.up, ux, va, la, vb, lb] using h.c9
      · simpa [Par.up, ux, va, la, vb, lb] using h.c10
      · simpa [Par.up, ux, va, la, vb, lb] using h.c11
      · simpa [Par.up, ux, va, la, vb, lb] using h.c13
      · simpa [Par.up, ux, va, la, vb, lb] using h.c15

    · -- 15: store
      obtain rfl := Option.some.inj ho
      refine wpOp_step rfl (fun K hK => ?_)
      have da : b 14 = true := hdep ⟨14, .data⟩ (by simp) rfl
      have dv : b 11 = true := hdep ⟨11, .data⟩ (by simp) rfl
      have ea := h.p41 da
      obtain ⟨A, c, ex, ev, hc⟩ := h.p39 dv
      have hcell := blk_cell h.box 2
      have hfr := blk_frozen h.box 2
      go_simp
      refine hK _ _ ⟨x, rfl, ⟨?_, ?_, ?_, ?_, ?_, ?_, ?_, ?_, ?_, ?_, ?_, ?_, ?_, ?_, ?_, ?_, ?_, ?_, ?_, ?_, ?_⟩⟩
      · exact h.below.setCell (Nat.le_of_eq HHB.out) _
      · simpa [Par.up, ev] using blk_set h.box 2 (Value.slice A 8 c)
      · simpa [Par.up, va, la] using Kd.R_set h.ra h.box (by decide) _ _
      · simpa [Par.up, vb, lb] using Kd.R_set h.rb h.box (by decide) _ _
      · simpa [Par.up, ux, va, la, vb, lb] using h.dis
      · simpa [Par.up, ux, va, la, vb, lb] using h.p29
      · simpa [Par.up, ux, va, la, vb, lb] using h.p30
      · simpa [Par.up, ux, va, la, vb, lb] using h.p35
      · simpa [Par.up, ux, va, la, vb, lb] using h.p36
      · simpa [Par.up, ux, va, la, vb, lb] using h.p40
      · simpa [Par.up, ux, va, la, vb, lb] using h.p41
      · simpa [Par.up, ux, va, la, vb, lb] using h.p33
      · simpa [Par.up, ux, va, la, vb, lb] using h.p39
      · simpa [Par.up, ux, va, la, vb, lb] using h.c3
      · simpa [Par.up, ux, va, la, vb, lb] using h.c4
      · simpa [Par.up, ux, va, la, vb, lb] using h.c5
      · simpa [Par.up, ux, va, la, vb, lb] using h.c9
      · simpa [Par.up, ux, va, la, vb, lb] using h.c10
      · simpa [Par.up, ux, va, la, vb, lb] using h.c11
      · simpa [Par.up, ux, va, la, vb, lb] using h.c13
      · simpa [Par.up] using dv

  · rintro b a w hall ⟨x, rfl, h⟩
    have hb5 := hall 5 (by decide)
    have hb11 := hall 11 (by decide)
    obtain ⟨A3, c3, e32, e33, hc3⟩ := h.p33 hb5
    obtain ⟨A4, c4, e38, e39, hc4⟩ := h.p39 hb11
    have hbox := h.box
    rw [if_pos (hall 13 (by decide)), if_pos (hall 15 (by decide)), e33, e39] at hbox
    have ra := h.ra
    have rb := h.rb
    simp only [va, la, vb, lb, hall 4 (by decide), hall 10 (by decide), if_true] at ra rb
    clear k0 k1 k2 HK B1
    obtain ⟨k0, k1, k2⟩ := box3 hbox
    have hf0 := blk_frozen hbox 0
    have HK := Lib.hid hbox
    have B1 := Lib.hid h.below
    have hbox' := blk_put hbox 0 (Value.int .i64 (wrap64 ((IntKind.u64.wrap sp).tmod 3))) rfl
    obtain ⟨j0, j1, j2⟩ := box3 hbox'
    have RA := Lib.hid (Kd.R_set ra hbox (by decide) 0 (Value.int .i64 (wrap64 ((IntKind.u64.wrap sp).tmod 3))))
    have RB := Lib.hid (Kd.R_set rb hbox (by decide) 0 (Value.int .i64 (wrap64 ((IntKind.u64.wrap sp).tmod 3))))
    have E32 := Lib.hid e32
    have E38 := Lib.hid e38
    have B2 := Lib.hid (B1.out.setCell (p := ⟨w0.heap.size, 0, none⟩) (Nat.le_refl _) (Value.int .i64 (wrap64 ((IntKind.u64.wrap sp).tmod 3))))
    clear hbox hbox' e32 e38 ra rb h
    go_wp2_with fail
    obtain ⟨A5, c5, e5, hc5, C5⟩ := Kd.R_reads RA.out
    obtain ⟨A6, c6, e6, hc6, C6⟩ := Kd.R_reads RB.out
    rw [E32.out] at e5
    rw [E38.out] at e6
    injection e5 with i1 i2 i3
    injection e6 with i4 i5 i6
    subst i1 i3 i4 i6
    clear i2 i5
    have C5 := Kd.C_take (m := 8) C5 (by simp [z8])
    have C6 := Kd.C_take (m := 8) C6 (by simp [z8])
    have m1 : ((l1 ++ z8).take 8).length = 8 := by simp [z8]
    have m2 : ((l2 ++ z8).take 8).length = 8 := by simp [z8]
    generalize (l1 ++ z8).take 8 = xs at *
    generalize (l2 ++ z8).take 8 = ys at *
    obtain ⟨r1, r2, f1, f2⟩ := PlainHeadPuts.put_same (wrap64 ((IntKind.u64.wrap sp).tmod 3)) pn (wrap64 (1 + wrap64 ((IntKind.u64.wrap bytes).tmod 4))) (wrap64 ((IntKind.u64.wrap size).tmod 1201)) xs ys
    have P1 := fun w hx hy => PHeadPuts.head_Put.calls 10 (wrap64 ((IntKind.u64.wrap sp).tmod 3)) A3 c3 xs A4 c4 ys pn (wrap64 (1 + wrap64 ((IntKind.u64.wrap bytes).tmod 4))) (wrap64 ((IntKind.u64.wrap size).tmod 1201)) r1 r2 w hx (by omega) hy (by omega) f1
    have P2 := fun w hx hy => PHeadPuts.skiffref10_Head.calls 10 (wrap64 ((IntKind.u64.wrap sp).tmod 3)) A3 c3 xs A4 c4 ys pn (wrap64 (1 + wrap64 ((IntKind.u64.wrap bytes).tmod 4))) (wrap64 ((IntKind.u64.wrap size).tmod 1201)) r1 r2 w hx (by omega) hy (by omega) f2
    rw [m1] at C5
    rw [m2] at C6
    simp only [m1, m2] at P1 P2
    have P2 := Lib.hid P2
    have M1 := Lib.hid m1
    have M2 := Lib.hid m2
    have CC5 := Lib.hid C5
    have CC6 := Lib.hid C6
    clear f1 f2 m1 m2 C5 C6
    refine (P1 _ CC5.out CC6.out).mono ?_
    clear P1
    rintro e w2 ⟨u0, rfl, R1, b2⟩
    obtain ⟨A7, c7, rfl, hc7, C7⟩ := Kd.R_reads R1
    have B3 := Lib.hid (B2.out.trans (b2.mono B2.out.size))
    have q0 := pw_cell_below b2 j0
    have q1 := pw_cell_below b2 j1
    have q2 := pw_cell_below b2 j2
    have D5 := Lib.hid (Kd.C_below CC5.out b2)
    have D6 := Lib.hid (Kd.C_below CC6.out b2)
    clear b2 R1 j0 j1 j2 k0 k1 k2
    go_wp2_with fail
    refine (P2.out _ D5.out D6.out).mono ?_
    rintro e w3 ⟨u1, rfl, R2, b3⟩
    obtain ⟨A8, c8, rfl, hc8, C8⟩ := Kd.R_reads R2
    have B4 := Lib.hid (B3.out.trans (b3.mono B3.out.size))
    have hs3 := Kd.C_string (P := Try.prog) (A := A7) (c := c7) Try.underlying30 Try.underlying5 Try.underlying9 (Kd.C_below C7 b3)
    have hs4 := Kd.C_string (P := Try.prog) (A := A8) (c := c8) Try.underlying30 Try.underlying5 Try.underlying9 C8
    clear b3 R2 q0 q1 q2 P2
    go_wp2_with fail
    go_ret
    exact ⟨by simp, B4.out⟩

theorem plain (sp pn bytes size : Int) (A1 A2 : Option Addr) (c1 c2 : Nat) (l1 l2 : List Int) (w : World)
    (hr1 : Kd.C (Kd.int .u8) w A1 l1.length l1) (hc1 : l1.length ≤ c1) (hr2 : Kd.C (Kd.int .u8) w A2 l2.length l2) (hc2 : l2.length ≤ c2)
    (h1 : l1.length ≤ 100) (h2 : l2.length ≤ 100) :
    Calls Try.prog 6 #[.agg #[.int .i64 sp, .slice A1 l1.length c1, .slice A2 l2.length c2], .int .u64 pn, .int .i64 bytes, .int .i64 size, .bool false] w fun e w' => e = .returned (.bool true) ∧ Below w.heap.size w w' := by
  go_enter Try.func6, Try.ntmps6
  go_wp2_with fail
  refine (awake _).mono ?_
  rintro e w1 ⟨rfl, b1⟩
  obtain ⟨k0, k1, k2⟩ := box3 (b1.block w.heap.size (by simp) |>.trans (heap_alloc_new _ _))
  go_wp2_with fail
  have B1 : Below w.heap.size w w1 := ((Below.refl _ _).alloc (Nat.le_refl _) _).trans (b1.mono (by simp))
  obtain ⟨r1, r2, f1, f2⟩ := PlainHeadPuts.put_same sp pn bytes size l1 l2
  have F2 := Lib.hid f2
  have RB := Lib.hid B1
  clear f2 b1 B1
  refine (PHeadPuts.head_Put.calls 10 sp A1 c1 l1 A2 c2 l2 pn bytes size r1 r2 _ (Kd.C_below hr1 RB.out) hc1 (Kd.C_below hr2 RB.out) hc2 f1).mono ?_
  rintro e w2 ⟨v0, rfl, R1, b2⟩
  obtain ⟨A3, c3, rfl, hc3, C3⟩ := Kd.R_reads R1
  have B2 := Lib.hid (RB.out.trans (b2.mono RB.out.size))
  have q0 := pw_cell_below b2 k0
  have q1 := pw_cell_below b2 k1
  have q2 := pw_cell_below b2 k2
  clear b2 R1 k0 k1 k2 f1
  go_wp2_with fail
  refine (PHeadPuts.skiffref10_Head.calls 10 sp A1 c1 l1 A2 c2 l2 pn bytes size r1 r2 _ (Kd.C_below hr1 B2.out) hc1 (Kd.C_below hr2 B2.out) hc2 F2.out).mono ?_
  rintro e w3 ⟨v1, rfl, R2, b3⟩
  obtain ⟨A4, c4, rfl, hc4, C4⟩ := Kd.R_reads R2
  have B3 := Lib.hid (B2.out.trans (b3.mono B2.out.size))
  have hs3 := Kd.C_string (P := Try.prog) (A := A3) (c := c3) Try.underlying30 Try.underlying5 Try.underlying9 (Kd.C_below C3 b3)
  have hs4 := Kd.C_string (P := Try.prog) (A := A4) (c := c4) Try.underlying30 Try.underlying5 Try.underlying9 C4
  clear b3 R2 q0 q1 q2 F2
  go_wp2_with fail
  go_ret
  exact ⟨by simp, B3.out⟩

theorem long (sp pn bytes size : Int) (r : Bool) (A1 A2 : Option Addr) (c1 c2 : Nat) (l1 l2 : List Int) (w : World)
    (h : 100 < l1.length ∨ (l1.length ≤ 100 ∧ 100 < l2.length)) :
    Calls Try.prog 6 #[.agg #[.int .i64 sp, .slice A1 l1.length c1, .slice A2 l2.length c2], .int .u64 pn, .int .i64 bytes, .int .i64 size, .bool r] w fun e w' => e = .returned (.bool true) ∧ Below w.heap.size w w' := by
  rcases h with h | ⟨h, h'⟩
  all_goals
    go_enter Try.func6, Try.ntmps6
    go_wp2_with fail
    refine (awake _).mono ?_
    rintro e w1 ⟨rfl, b1⟩
    obtain ⟨k0, k1, k2⟩ := box3 (b1.block w.heap.size (by simp) |>.trans (heap_alloc_new _ _))
    have B1 := Lib.hid (((Below.refl w.heap.size w).alloc (Nat.le_refl _) _).trans (b1.mono (by simp)))
    clear b1
    go_wp2_with fail
    go_ret
    exact ⟨rfl, B1.out⟩

theorem law (sp pn bytes size : Int) (r : Bool) (A1 A2 : Option Addr) (c1 c2 : Nat) (l1 l2 : List Int) (w : World)
    (hr1 : Kd.C (Kd.int .u8) w A1 l1.length l1) (hc1 : l1.length ≤ c1) (hr2 : Kd.C (Kd.int .u8) w A2 l2.length l2) (hc2 : l2.length ≤ c2) :
    Calls Try.prog 6 #[.agg #[.int .i64 sp, .slice A1 l1.length c1, .slice A2 l2.length c2], .int .u64 pn, .int .i64 bytes, .int .i64 size, .bool r] w fun e w' => e = .returned (.bool true) ∧ Below w.heap.size w w' := by
  by_cases h1 : 100 < l1.length
  · exact long sp pn bytes size r A1 A2 c1 c2 l1 l2 w (.inl h1)
  · by_cases h2 : 100 < l2.length
    · exact long sp pn bytes size r A1 A2 c1 c2 l1 l2 w (.inr ⟨by omega, h2⟩)
    · cases r with
      | false => exact plain sp pn bytes size A1 A2 c1 c2 l1 l2 w hr1 hc1 hr2 hc2 (by omega) (by omega)
      | true => exact right sp pn bytes size A1 A2 c1 c2 l1 l2 w hr1 hc1 hr2 hc2 (by omega) (by omega)

end Go.Proofs.Ytmccghadgihbpaa.HeadPutsWalk
