/- A region whose operations may come in any order and each yield a value told by what it takes: each operation once, out of facts on its operands' slots. The frame is not laid out. -/
import Derived.Test.YtgdboikoejodpaaPar
namespace Go.Proofs.Ytgdboikoejodpaa.Flow
open Go Go.Proofs.Ytgdboikoejodpaa.Par

section
variable {P : Program} {ops : Array Oper} {Q : Exit → Act → World → Prop}

/-- Operation j writes slot d, and i waits for it. -/
def dep (ops : Array Oper) (i j d : Nat) : Bool :=
  ((ops[i]?).map fun o => o.after.any fun e => Region.binds .any e && e.on == j).getD false && ((ops[j]?).map fun o => o.dst == some d).getD false
/-- No operation writes slot s. -/
def free (ops : Array Oper) (s : Nat) : Bool := ops.all fun o => o.dst != some s
/-- Each operation writes a slot, no two the same. -/
def apart (ops : Array Oper) : Bool := (List.range ops.size).all fun i => (List.range ops.size).all fun j => i == j || ((ops[i]?).map (·.dst)).getD none != ((ops[j]?).map (·.dst)).getD none

structure FI (ops : Array Oper) (V : Nat → World → Value → Prop) (G : World → Prop) (a0 : Act) (b : Nat → Bool) (a : Act) (w : World) : Prop where
  g : G w
  defs : a.defers = a0.defers
  size : a.tmps.size = a0.tmps.size
  keep : ∀ s, free ops s = true → a.tmps.getD s undef = a0.tmps.getD s undef
  val : ∀ i o d, ops[i]? = some o → o.dst = some d → b i = true → V i w (a.tmps.getD d undef)

theorem put_get_ne {a : Act} {d s : Nat} {v : Value} (h : d ≠ s) : (a.put (some d) v).tmps.getD s undef = a.tmps.getD s undef := by
  show (a.tmps.setIfInBounds d v).getD s undef = _
  rw [Array.getD_eq_getD_getElem?, Array.getD_eq_getD_getElem?, Array.getElem?_setIfInBounds_ne h]
theorem put_get_self {a : Act} {d : Nat} {v : Value} (h : d < a.tmps.size) : (a.put (some d) v).tmps.getD d undef = v := by
  show (a.tmps.setIfInBounds d v).getD d undef = _
  rw [Array.getD_eq_getD_getElem?, Array.getElem?_setIfInBounds_self_of_lt h]; rfl

/-- Every slot that the region writes lies in the frame. -/
def fits (ops : Array Oper) (n : Nat) : Bool := ops.all fun o => match o.dst with | some d => decide (d < n) | none => true

theorem wp_region {id : Nat} {a : Act} {w : World} (V : Nat → World → Value → Prop) (G : World → Prop) (hm : P.follows .mixedOrders = true) (hb : backs ops = true) (ha : apart ops = true) (hf : fits ops a.tmps.size = true)
    (h0 : G w.drew)
    (step : ∀ i o, ops[i]? = some o → ∀ a' w, G w → (∀ s, free ops s = true → a'.tmps.getD s undef = a.tmps.getD s undef) → (∀ j d, dep ops i j d = true → V j w (a'.tmps.getD d undef)) →
      wpOp P ops Q i (fun a2 w2 => ∃ v, a2 = a'.put o.dst v ∧ G w2 ∧ V i w2 v ∧ ∀ j u, V j w u → V j w2 u) a' w)
    (hend : ∀ a' w, G w → a'.defers = a.defers → a'.tmps.size = a.tmps.size → (∀ s, free ops s = true → a'.tmps.getD s undef = a.tmps.getD s undef) → (∀ i o d, ops[i]? = some o → o.dst = some d → V i w (a'.tmps.getD d undef)) → Q .normal a' w) :
    (Code.region id ops true).wp P Q a w := by
  refine wp_region_inv hm (FI ops V G a) hb ⟨h0, rfl, rfl, fun _ _ => rfl, fun _ _ _ _ _ h => by cases h⟩ ?_ ?_
  · intro i o ho b a' w' h hbi hdep
    refine wpOp_mono ?_ (step i o ho a' w' h.g h.keep ?_)
    · rintro a2 w2 ⟨v, rfl, hG, hV, hmono⟩
      have hi : i < ops.size := (Array.getElem?_eq_some_iff.1 ho).1
      have hio : ops[i] = o := (Array.getElem?_eq_some_iff.1 ho).2
      refine ⟨hG, ?_, ?_, ?_, ?_⟩
      · rw [← h.defs]; cases o.dst <;> rfl
      · rw [← h.size]; cases o.dst <;> simp [Act.put]
      · intro s hs
        rw [← h.keep s hs]
        cases hd : o.dst with
        | none => rfl
        | some d =>
          refine put_get_ne ?_
          rintro rfl
          have := (Array.all_eq_true.1 hs) i hi
          rw [hio, hd] at this
          simp at this
      · intro j o' d' hj hd' hbj
        by_cases hji : j = i
        · subst hji
          rw [ho] at hj
          cases hj
          rw [hd']
          have hlt := (Array.all_eq_true.1 hf) j hi
          rw [hio, hd'] at hlt
          rw [put_get_self (by rw [h.size]; simpa using hlt)]
          exact hV
        · rw [up_ne hji] at hbj
          have hv := hmono _ _ (h.val j o' d' hj hd' hbj)
          cases hd : o.dst with
          | none => exact hv
          | some d =>
            rw [put_get_ne]
            · exact hv
            · rintro rfl
              have hj2 := (Array.getElem?_eq_some_iff.1 hj).1
              have := List.all_eq_true.1 (List.all_eq_true.1 ha i (List.mem_range.2 hi)) j (List.mem_range.2 hj2)
              rw [ho, hj] at this
              simp [hd, hd', Ne.symm hji] at this
    · intro j d hd
      unfold dep at hd
      rw [Bool.and_eq_true] at hd
      obtain ⟨h1, h2⟩ := hd
      rw [ho] at h1
      simp only [Option.map_some, Option.getD_some, Array.any_eq_true, Bool.and_eq_true] at h1
      obtain ⟨k, hk, hb1, hb2⟩ := h1
      have hbj := hdep o.after[k] (by simp) hb1
      rw [show o.after[k].on = j by simpa using hb2] at hbj
      cases hoj : ops[j]? with
      | none => rw [hoj] at h2; simp at h2
      | some o' =>
        rw [hoj] at h2
        exact h.val j o' d hoj (by simpa using h2) hbj
  · intro b a' w' hall h
    exact hend a' w' h.g h.defs h.size h.keep (fun i o d hi hd => h.val i o d hi hd (hall i (Array.getElem?_eq_some_iff.1 hi).1))

/-- A guard whose slot holds the bool. -/
theorem wanted_of {o : Oper} {a : Act} {j d : Nat} {b : Bool} (hg : o.guard = some (j, b)) (hd : (ops[j]?).bind (·.dst) = some d) (h : a.tmps.getD d undef = .bool b) : Region.wanted o (yielded ops a.tmps) = true := by
  have h1 : a.tmps[d]? = some (.bool b) := by
    rw [Array.getD_eq_getD_getElem?] at h
    cases h2 : a.tmps[d]? with
    | none => rw [h2] at h; cases h
    | some v => rw [h2] at h; exact congrArg some h
  unfold Region.wanted yielded
  rw [hg]
  simp only [hd, Option.bind_some, h1]
  simp

theorem wanted_no {o : Oper} {a : Act} {j d : Nat} {b c : Bool} (hg : o.guard = some (j, b)) (hd : (ops[j]?).bind (·.dst) = some d) (h : a.tmps.getD d undef = .bool c) (hbc : b ≠ c) : Region.wanted o (yielded ops a.tmps) = false := by
  have h1 : a.tmps[d]? = some (.bool c) := by
    rw [Array.getD_eq_getD_getElem?] at h
    cases h2 : a.tmps[d]? with
    | none => rw [h2] at h; cases h
    | some v => rw [h2] at h; exact congrArg some h
  unfold Region.wanted yielded
  rw [hg]
  simp only [hd, Option.bind_some, h1]
  cases b <;> cases c <;> simp at hbc ⊢

theorem op_want {i : Nat} {o : Oper} {K : Act → World → Prop} {a : Act} {w : World} (ho : ops[i]? = some o) (hw : Region.wanted o (yielded ops a.tmps) = true)
    (h : ∀ K' : Act → World → Prop, (∀ a w, K a w → K' a w) → Oper.wp P o a w K' Q) : wpOp P ops Q i K a w :=
  wpOp_step ho fun K' hK => by rw [if_pos hw]; exact h K' hK

theorem op_skip {i : Nat} {o : Oper} {K : Act → World → Prop} {a : Act} {w : World} (ho : ops[i]? = some o) (hw : Region.wanted o (yielded ops a.tmps) = false)
    (h : K (a.put o.dst undef) w) : wpOp P ops Q i K a w :=
  wpOp_step ho fun K' hK => by rw [if_neg (by rw [hw]; simp)]; exact hK _ _ h

end
end Go.Proofs.Ytgdboikoejodpaa.Flow
