/- A region whose operations may come in any order: it is enough to show each operation once, out of a relation that speaks of which operations have been done. Plain laws over the model; no program in sight. -/
import Derived.RegionTactic
import Derived.WalkKit
namespace Go.Proofs.Ytgdboikoejodpaa.Par
open Go

section
variable {P : Program} {ops : Array Oper} {Q : Exit → Act → World → Prop}

/-- One number more is done. -/
def up (b : Nat → Bool) (i : Nat) : Nat → Bool := fun j => if j = i then true else b j
theorem up_self (b : Nat → Bool) (i : Nat) : up b i i = true := by simp [up]
theorem up_ne {b : Nat → Bool} {i j : Nat} (h : j ≠ i) : up b i j = b j := by simp [up, h]

/-- Every edge goes back. -/
def backs (ops : Array Oper) : Bool := (List.range ops.size).all fun i => ((ops[i]?).map fun o => o.after.all fun e => !Region.binds .any e || decide (e.on < i)).getD true

def done (l : Array Bool) : Nat → Bool := fun j => l.getD j false

theorem done_set (l : Array Bool) (i : Nat) (hi : i < l.size) : done (l.setIfInBounds i true) = up (done l) i := by
  funext j
  unfold done up
  by_cases h : j = i
  · subst h
    simp [Array.getElem?_setIfInBounds_self_of_lt hi]
  · rw [if_neg h]
    show (l.setIfInBounds i true).getD j false = l.getD j false
    rw [Array.getD_eq_getD_getElem?, Array.getD_eq_getD_getElem?, Array.getElem?_setIfInBounds_ne (Ne.symm h)]

/-- How many are not done. -/
def rest (l : Array Bool) : Nat := (l.toList.filter fun x => !x).length

theorem rest_set (l : Array Bool) (i : Nat) (h : l[i]? = some false) : rest (l.setIfInBounds i true) + 1 = rest l := by
  unfold rest
  rw [Array.toList_setIfInBounds]
  rw [← Array.getElem?_toList] at h
  generalize l.toList = xs at h
  induction xs generalizing i with
  | nil => simp at h
  | cons x xs ih =>
    cases i with
    | zero => simp at h; subst h; simp
    | succ i =>
      have := ih i (by simpa using h)
      cases x <;> simp <;> omega

theorem rest_zero {l : Array Bool} (h : rest l = 0) (j : Nat) (hj : j < l.size) : done l j = true := by
  unfold rest at h
  have h1 : (l.toList.filter fun x => !x) = [] := List.eq_nil_of_length_eq_zero h
  have h2 := List.filter_eq_nil_iff.1 h1 (l[j]) (by simp)
  unfold done
  rw [Array.getD_eq_getD_getElem?, Array.getElem?_eq_getElem hj]
  simpa using h2

theorem rest_pos {l : Array Bool} (h : rest l ≠ 0) : ∃ j, j < l.size ∧ done l j = false ∧ ∀ i, i < j → done l i = true := by
  have h1 : ∃ j, j < l.size ∧ done l j = false := by
    unfold rest at h
    have h0 : (l.toList.filter fun x => !x) ≠ [] := fun e => h (by rw [e]; rfl)
    obtain ⟨x, hx⟩ := List.exists_mem_of_ne_nil _ h0
    obtain ⟨hm, hf⟩ := List.mem_filter.1 hx
    obtain ⟨j, hj, rfl⟩ := List.getElem_of_mem hm
    refine ⟨j, by simpa using hj, ?_⟩
    unfold done
    rw [Array.getD_eq_getD_getElem?, Array.getElem?_eq_getElem (by simpa using hj)]
    simpa using hf
  obtain ⟨j, hj⟩ := h1
  induction j using Nat.strongRecOn with
  | _ j ih =>
    by_cases h2 : ∃ i, i < j ∧ done l i = false
    · obtain ⟨i, hi, hd⟩ := h2
      exact ih i hi ⟨by omega, hd⟩
    · refine ⟨j, hj.1, hj.2, fun i hi => ?_⟩
      cases hd : done l i with
      | true => rfl
      | false => exact absurd ⟨i, hi, hd⟩ h2

theorem wpAny_inv (I : (Nat → Bool) → Act → World → Prop) (hb : backs ops = true)
    (step : ∀ i o, ops[i]? = some o → ∀ b a w, I b a w → b i = false → (∀ e ∈ o.after.toList, Region.binds .any e = true → b e.on = true) → wpOp P ops Q i (fun a' w' => I (up b i) a' w') a w)
    (hend : ∀ b a w, (∀ j, j < ops.size → b j = true) → I b a w → Q .normal a w) :
    ∀ (fuel : Nat) (l : Array Bool) (a : Act) (w : World), l.size = ops.size → rest l = fuel → I (done l) a w → wpAny P .any ops Q fuel l a w := by
  intro fuel
  induction fuel with
  | zero =>
    intro l a w hs hr hI
    have hall := fun j (hj : j < ops.size) => rest_zero hr j (by omega)
    refine ⟨?_, hend _ a w hall hI⟩
    unfold Region.ready
    rw [List.filter_eq_nil_iff]
    intro j hj
    have hj := List.mem_range.1 hj
    have h1 := hall j hj
    unfold done at h1
    rw [Array.getD_eq_getD_getElem?, Array.getElem?_eq_getElem (show j < l.size by omega)] at h1
    rw [Array.getD_eq_getD_getElem?, Array.getElem?_eq_getElem (show j < l.size by omega)]
    simp only [Option.getD_some] at h1 ⊢
    simp [h1]
  | succ fuel ih =>
    intro l a w hs hr hI
    refine ⟨fun hn => ?_, fun i hi => ?_⟩
    · exfalso
      obtain ⟨j, hj, hd, hlt⟩ := rest_pos (l := l) (by omega)
      have hmem : j ∈ Region.ready .any ops l := by
        unfold Region.ready
        rw [List.mem_filter]
        refine ⟨List.mem_range.2 (by omega), ?_⟩
        have hbj := List.all_eq_true.1 hb j (List.mem_range.2 (by omega))
        rw [Array.getElem?_eq_getElem (show j < ops.size by omega)] at hbj ⊢
        simp only [Option.map_some, Option.getD_some, Array.all_eq_true] at hbj ⊢
        have hd' : l.getD j true = false := by
          unfold done at hd
          rw [Array.getD_eq_getD_getElem?, Array.getElem?_eq_getElem hj] at hd ⊢
          simpa using hd
        rw [hd']
        simp only [Bool.not_false, Bool.true_and, Array.all_eq_true]
        intro k hk
        have := hbj k hk
        rw [Bool.or_eq_true] at this ⊢
        rcases this with h | h
        · exact .inl h
        · exact .inr (hlt _ (of_decide_eq_true h))
      rw [hn] at hmem
      cases hmem
    · unfold Region.ready at hi
      obtain ⟨hir, hif⟩ := List.mem_filter.1 hi
      have hil := List.mem_range.1 hir
      rw [Array.getElem?_eq_getElem hil] at hif
      simp only [Option.map_some, Option.getD_some, Bool.and_eq_true, Array.all_eq_true] at hif
      have hl : l[i]? = some false := by
        have h1 := hif.1
        rw [Array.getD_eq_getD_getElem?, Array.getElem?_eq_getElem (show i < l.size by omega)] at h1
        rw [Array.getElem?_eq_getElem (show i < l.size by omega)]
        simpa using h1
      have hdi : done l i = false := by unfold done; rw [Array.getD_eq_getD_getElem?, hl]; rfl
      refine wpOp_mono ?_ (step i ops[i] (Array.getElem?_eq_getElem hil) (done l) a w hI hdi ?_)
      · intro a' w' hI'
        rw [← done_set l i (by omega)] at hI'
        exact ih _ a' w' (by simpa using hs) (by have := rest_set l i hl; omega) hI'
      · intro e he hbe
        obtain ⟨k, hk, rfl⟩ := List.getElem_of_mem he
        have := hif.2 k (by simpa using hk)
        rw [Bool.or_eq_true] at this
        rcases this with h | h
        · have hbe' : Region.binds .any ops[i].after[k] = true := by simpa using hbe
          rw [hbe'] at h; cases h
        · simpa [done] using h

/-- THE LAW: a region whose operations come in any order, by a relation over what is done. -/
theorem wp_region_inv {id : Nat} {a : Act} {w : World} (hm : P.follows .mixedOrders = true) (I : (Nat → Bool) → Act → World → Prop) (hb : backs ops = true)
    (h0 : I (fun _ => false) a w.drew)
    (step : ∀ i o, ops[i]? = some o → ∀ b a w, I b a w → b i = false → (∀ e ∈ o.after.toList, Region.binds .any e = true → b e.on = true) → wpOp P ops Q i (fun a' w' => I (up b i) a' w') a w)
    (hend : ∀ b a w, (∀ j, j < ops.size → b j = true) → I b a w → Q .normal a w) : (Code.region id ops true).wp P Q a w := by
  refine wp_region_any hm (wpAny_inv I hb step hend _ _ a _ (by simp) ?_ ?_)
  · unfold rest; simp
  · have : done (Array.replicate ops.size false) = fun _ => false := by
      funext j
      unfold done
      rw [Array.getD_eq_getD_getElem?, Array.getElem?_replicate]
      split <;> rfl
    rw [this]
    exact h0

end
end Go.Proofs.Ytgdboikoejodpaa.Par
