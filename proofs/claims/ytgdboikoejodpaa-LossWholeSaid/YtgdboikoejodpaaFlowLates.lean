/- A drawn region in which more than one operation waits for what holds until it is done itself. -/
import Derived.Test.YtgdboikoejodpaaFlowLit
namespace Go.Proofs.Ytgdboikoejodpaa.Flow
open Go Go.Proofs.Ytgdboikoejodpaa.Par
set_option linter.unusedVariables false

section
variable {P : Program} {ops : Array Oper} {Q : Exit → Act → World → Prop}

structure FM (ops : Array Oper) (V : Nat → World → Value → Prop) (G : World → Prop) (L : Nat → World → Prop) (a0 : Act) (b : Nat → Bool) (a : Act) (w : World) : Prop where
  g : G w
  late : ∀ i, b i = false → L i w
  defs : a.defers = a0.defers
  size : a.tmps.size = a0.tmps.size
  keep : ∀ s, (∀ j, b j = true → (ops[j]?).bind (·.dst) ≠ some s) → a.tmps.getD s undef = a0.tmps.getD s undef
  val : ∀ i o d, ops[i]? = some o → o.dst = some d → b i = true → V i w (a.tmps.getD d undef)
  closed : ∀ j i, b j = true → waits ops j i = true → b i = true

/-- A region in any order; what L says of the world holds until operation k0 has been done. -/
theorem wp_region_lates {id : Nat} {a : Act} {w : World} (V : Nat → World → Value → Prop) (G : World → Prop) (L : Nat → World → Prop) (hm : P.follows .mixedOrders = true) (hb : backs ops = true) (ha : apart ops = true) (hf : fits ops a.tmps.size = true)
    (h0 : G w.drew) (hL0 : ∀ i, L i w.drew)
    (step : ∀ i o, ops[i]? = some o → ∀ a' w, G w → L i w → (∀ s, stays ops i s = true → a'.tmps.getD s undef = a.tmps.getD s undef) → (∀ j d, dep ops i j d = true → V j w (a'.tmps.getD d undef)) →
      wpOp P ops Q i (fun a2 w2 => ∃ v, a2 = a'.put o.dst v ∧ G w2 ∧ V i w2 v ∧ (∀ j u, j ≠ i ∧ waits ops j i = false → V j w u → V j w2 u) ∧ (∀ j, j ≠ i → L j w → L j w2)) a' w)
    (hend : ∀ a' w, G w → a'.defers = a.defers → a'.tmps.size = a.tmps.size → (∀ s, free ops s = true → a'.tmps.getD s undef = a.tmps.getD s undef) → (∀ i o d, ops[i]? = some o → o.dst = some d → V i w (a'.tmps.getD d undef)) → Q .normal a' w) :
    (Code.region id ops true).wp P Q a w := by
  refine wp_region_inv hm (FM ops V G L a) hb ⟨h0, fun i _ => hL0 i, rfl, rfl, (fun _ _ => rfl), (fun _ _ _ _ _ h => by cases h), (fun _ _ h _ => by cases h)⟩ ?_ ?_
  · intro i o ho b a' w' h hbi hdep
    refine wpOp_mono ?_ (step i o ho a' w' h.g (h.late i hbi) (fun s hs => h.keep s (fun j hbj hd => ?_)) ?_)
    · rintro a2 w2 ⟨v, rfl, hG, hV, hmono, hlate⟩
      have hi : i < ops.size := (Array.getElem?_eq_some_iff.1 ho).1
      have hio : ops[i] = o := (Array.getElem?_eq_some_iff.1 ho).2
      refine ⟨hG, ?_, ?_, ?_, ?_, ?_, ?_⟩
      · intro j hup
        by_cases hij : j = i
        · subst hij; rw [up_self] at hup; cases hup
        · rw [up_ne hij] at hup
          exact hlate j hij (h.late j hup)
      · rw [← h.defs]; cases o.dst <;> rfl
      · rw [← h.size]; cases o.dst <;> simp [Act.put]
      · intro s hs
        rw [← h.keep s (fun j hbj => hs j (by by_cases e : j = i <;> simp [up, e, hbj]))]
        cases hd : o.dst with
        | none => rfl
        | some d =>
          refine put_get_ne ?_
          rintro rfl
          exact hs i (up_self b i) (by rw [ho]; exact hd)
      · intro j o' d' hj hd' hbj
        by_cases hji : j = i
        · subst hji
          rw [ho] at hj
          cases hj
          rw [hd']
          have hlt := (Array.all_eq_true.1 hf) j hi
          rw [hio, hd'] at hlt
          rw [put_get_self (by rw [h.size]; simpa using hlt)]
          exact hV
        · rw [up_ne hji] at hbj
          have hv := hmono _ _ ⟨hji, by
            cases hw : waits ops j i with
            | false => rfl
            | true => rw [h.closed j i hbj hw] at hbi; cases hbi⟩ (h.val j o' d' hj hd' hbj)
          cases hd : o.dst with
          | none => exact hv
          | some d =>
            rw [put_get_ne]
            · exact hv
            · rintro rfl
              have hj2 := (Array.getElem?_eq_some_iff.1 hj).1
              have := List.all_eq_true.1 (List.all_eq_true.1 ha i (List.mem_range.2 hi)) j (List.mem_range.2 hj2)
              rw [ho, hj] at this
              simp [hd, hd', Ne.symm hji] at this
      · intro j k hbj hw
        by_cases hki : k = i
        · subst hki; exact up_self b k
        · rw [up_ne hki]
          by_cases hji : j = i
          · subst hji
            unfold waits at hw
            rw [ho] at hw
            simp only [Option.map_some, Option.getD_some, Array.any_eq_true, Bool.and_eq_true] at hw
            obtain ⟨m, hm1, hb1, hb2⟩ := hw
            have := hdep o.after[m] (by simp) hb1
            rwa [show o.after[m].on = k by simpa using hb2] at this
          · rw [up_ne hji] at hbj
            exact h.closed j k hbj hw
    · have hj : j < ops.size := by
        cases hoj : ops[j]? with
        | none => rw [hoj] at hd; cases hd
        | some o' => exact (Array.getElem?_eq_some_iff.1 hoj).1
      have h1 := List.all_eq_true.1 hs j (List.mem_range.2 hj)
      rw [Bool.or_eq_true] at h1
      rcases h1 with h1 | h1
      · rw [bne_iff_ne] at h1; exact h1 hd
      · rw [h.closed j i hbj h1] at hbi; cases hbi
    · intro j d hd
      unfold dep at hd
      rw [Bool.and_eq_true] at hd
      obtain ⟨h1, h2⟩ := hd
      rw [ho] at h1
      simp only [Option.map_some, Option.getD_some, Array.any_eq_true, Bool.and_eq_true] at h1
      obtain ⟨k, hk, hb1, hb2⟩ := h1
      have hbj := hdep o.after[k] (by simp) hb1
      rw [show o.after[k].on = j by simpa using hb2] at hbj
      cases hoj : ops[j]? with
      | none => rw [hoj] at h2; simp at h2
      | some o' =>
        rw [hoj] at h2
        exact h.val j o' d hoj (by simpa using h2) hbj
  · intro b a' w' hall h
    exact hend a' w' h.g h.defs h.size (fun s hs => h.keep s (fun j _ hd => by
      cases hoj : ops[j]? with
      | none => rw [hoj] at hd; cases hd
      | some o' =>
        rw [hoj] at hd
        obtain ⟨hj, hoj⟩ := Array.getElem?_eq_some_iff.1 hoj
        have := (Array.all_eq_true.1 hs) j hj
        rw [hoj] at this
        simp only [Option.bind_some] at hd
        rw [hd] at this
        simp at this)) (fun i o d hi hd => h.val i o d hi hd (hall i (Array.getElem?_eq_some_iff.1 hi).1))

theorem wp_region_lit_lates {id : Nat} {l : List Value} {df : List Deferred} {w : World} (ds : List Nat) (hds : dstsL ops = ds) (V : Nat → World → Value → Prop) (G : World → Prop) (L : Nat → World → Prop) (hm : P.follows .mixedOrders = true) (hb : backs ops = true) (ha : apart ops = true) (hf : fits ops l.length = true)
    (h0 : G w.drew) (hL0 : ∀ i, L i w.drew)
    (step : ∀ i o, ops[i]? = some o → ∀ a' w, G w → L i w → (∀ s, stays ops i s = true → a'.tmps.getD s undef = l.toArray.getD s undef) → (∀ j d, dep ops i j d = true → V j w (a'.tmps.getD d undef)) →
      wpOp P ops Q i (fun a2 w2 => ∃ v, a2 = a'.put o.dst v ∧ G w2 ∧ V i w2 v ∧ (∀ j u, j ≠ i ∧ waits ops j i = false → V j w u → V j w2 u) ∧ (∀ j, j ≠ i → L j w → L j w2)) a' w)
    (hend : ∀ (us : Nat → Value) w, G w → (∀ i o d, ops[i]? = some o → o.dst = some d → V i w (us d)) → Q .normal ⟨(lay us ds l).toArray, df⟩ w) :
    (Code.region id ops true).wp P Q ⟨l.toArray, df⟩ w := by
  refine wp_region_lates V G L hm hb ha (by simpa using hf) h0 hL0 step ?_
  intro a' w' hG hdf hsz hk hval
  have hsz' : a'.tmps.size = l.length := by simpa using hsz
  have e : a'.tmps = (lay (fun d => a'.tmps.getD d undef) ds l).toArray := by
    apply Array.ext'
    apply List.ext_getElem?
    intro s
    by_cases hs : s < l.length
    · rw [lay_get _ _ _ _ hs]
      have hs' : s < a'.tmps.size := by omega
      have g : a'.tmps.toList[s]? = some (a'.tmps.getD s undef) := by
        rw [Array.getElem?_toList, Array.getD_eq_getD_getElem?, Array.getElem?_eq_getElem hs']; rfl
      by_cases hd : s ∈ ds
      · rw [if_pos hd, g]
      · rw [if_neg hd, g]
        have hfree : free ops s = true := by
          unfold free
          rw [Array.all_eq_true]
          intro i hi
          rw [bne_iff_ne]
          intro ho
          apply hd
          rw [← hds]
          unfold dstsL
          rw [List.mem_filterMap]
          exact ⟨ops[i], by simp, ho⟩
        rw [hk s hfree]
        rw [Array.getD_eq_getD_getElem?]
        simp [hs]
    · have g : ¬ s < a'.tmps.toList.length := by simpa [hsz'] using hs
      rw [List.getElem?_eq_none (by omega), List.getElem?_eq_none (by simp only [lay_length]; omega)]
  have h := hend (fun d => a'.tmps.getD d undef) w' hG hval
  have ea : a' = ⟨(lay (fun d => a'.tmps.getD d undef) ds l).toArray, df⟩ := by
    cases a' with
    | mk t d =>
      have hdf : d = df := hdf
      subst hdf
      exact congrArg (fun t => (⟨t, d⟩ : Act)) e
  rw [ea]
  exact h

end
end Go.Proofs.Ytgdboikoejodpaa.Flow

namespace Go.Proofs.Ytgdboikoejodpaa.Flow
open Go Go.Proofs.Ytgdboikoejodpaa.Par
set_option linter.unusedVariables false

section
variable {P : Program} {ops : Array Oper} {Q : Exit → Act → World → Prop}

structure FN (ops : Array Oper) (V : Nat → World → Value → Prop) (G : (Nat → Bool) → World → Prop) (a0 : Act) (b : Nat → Bool) (a : Act) (w : World) : Prop where
  g : G b w
  defs : a.defers = a0.defers
  size : a.tmps.size = a0.tmps.size
  keep : ∀ s, (∀ j, b j = true → (ops[j]?).bind (·.dst) ≠ some s) → a.tmps.getD s undef = a0.tmps.getD s undef
  val : ∀ i o d, ops[i]? = some o → o.dst = some d → b i = true → V i w (a.tmps.getD d undef)
  closed : ∀ j i, b j = true → waits ops j i = true → b i = true

/-- A region in any order; what G says of the world turns with the operations that are done. -/
theorem wp_region_states {id : Nat} {a : Act} {w : World} (V : Nat → World → Value → Prop) (G : (Nat → Bool) → World → Prop) (hm : P.follows .mixedOrders = true) (hb : backs ops = true) (ha : apart ops = true) (hf : fits ops a.tmps.size = true)
    (h0 : G (fun _ => false) w.drew)
    (step : ∀ i o, ops[i]? = some o → ∀ b a' w, b i = false → G b w → (∀ s, stays ops i s = true → a'.tmps.getD s undef = a.tmps.getD s undef) → (∀ j d, dep ops i j d = true → V j w (a'.tmps.getD d undef)) → (∀ j k, b j = true → waits ops j k = true → b k = true) →
      wpOp P ops Q i (fun a2 w2 => ∃ v, a2 = a'.put o.dst v ∧ G (up b i) w2 ∧ V i w2 v ∧ (∀ j u, j ≠ i ∧ waits ops j i = false → V j w u → V j w2 u)) a' w)
    (hend : ∀ b a' w, (∀ i, i < ops.size → b i = true) → G b w → a'.defers = a.defers → a'.tmps.size = a.tmps.size → (∀ s, free ops s = true → a'.tmps.getD s undef = a.tmps.getD s undef) → (∀ i o d, ops[i]? = some o → o.dst = some d → V i w (a'.tmps.getD d undef)) → Q .normal a' w) :
    (Code.region id ops true).wp P Q a w := by
  refine wp_region_inv hm (FN ops V G a) hb ⟨h0, rfl, rfl, (fun _ _ => rfl), (fun _ _ _ _ _ h => by cases h), (fun _ _ h _ => by cases h)⟩ ?_ ?_
  · intro i o ho b a' w' h hbi hdep
    refine wpOp_mono ?_ (step i o ho b a' w' hbi h.g (fun s hs => h.keep s (fun j hbj hd => ?_)) ?_ h.closed)
    · rintro a2 w2 ⟨v, rfl, hG, hV, hmono⟩
      have hi : i < ops.size := (Array.getElem?_eq_some_iff.1 ho).1
      have hio : ops[i] = o := (Array.getElem?_eq_some_iff.1 ho).2
      refine ⟨hG, ?_, ?_, ?_, ?_, ?_⟩
      · rw [← h.defs]; cases o.dst <;> rfl
      · rw [← h.size]; cases o.dst <;> simp [Act.put]
      · intro s hs
        rw [← h.keep s (fun j hbj => hs j (by by_cases e : j = i <;> simp [up, e, hbj]))]
        cases hd : o.dst with
        | none => rfl
        | some d =>
          refine put_get_ne ?_
          rintro rfl
          exact hs i (up_self b i) (by rw [ho]; exact hd)
      · intro j o' d' hj hd' hbj
        by_cases hji : j = i
        · subst hji
          rw [ho] at hj
          cases hj
          rw [hd']
          have hlt := (Array.all_eq_true.1 hf) j hi
          rw [hio, hd'] at hlt
          rw [put_get_self (by rw [h.size]; simpa using hlt)]
          exact hV
        · rw [up_ne hji] at hbj
          have hv := hmono _ _ ⟨hji, by
            cases hw : waits ops j i with
            | false => rfl
            | true => rw [h.closed j i hbj hw] at hbi; cases hbi⟩ (h.val j o' d' hj hd' hbj)
          cases hd : o.dst with
          | none => exact hv
          | some d =>
            rw [put_get_ne]
            · exact hv
            · rintro rfl
              have hj2 := (Array.getElem?_eq_some_iff.1 hj).1
              have := List.all_eq_true.1 (List.all_eq_true.1 ha i (List.mem_range.2 hi)) j (List.mem_range.2 hj2)
              rw [ho, hj] at this
              simp [hd, hd', Ne.symm hji] at this
      · intro j k hbj hw
        by_cases hki : k = i
        · subst hki; exact up_self b k
        · rw [up_ne hki]
          by_cases hji : j = i
          · subst hji
            unfold waits at hw
            rw [ho] at hw
            simp only [Option.map_some, Option.getD_some, Array.any_eq_true, Bool.and_eq_true] at hw
            obtain ⟨m, hm1, hb1, hb2⟩ := hw
            have := hdep o.after[m] (by simp) hb1
            rwa [show o.after[m].on = k by simpa using hb2] at this
          · rw [up_ne hji] at hbj
            exact h.closed j k hbj hw
    · have hj : j < ops.size := by
        cases hoj : ops[j]? with
        | none => rw [hoj] at hd; cases hd
        | some o' => exact (Array.getElem?_eq_some_iff.1 hoj).1
      have h1 := List.all_eq_true.1 hs j (List.mem_range.2 hj)
      rw [Bool.or_eq_true] at h1
      rcases h1 with h1 | h1
      · rw [bne_iff_ne] at h1; exact h1 hd
      · rw [h.closed j i hbj h1] at hbi; cases hbi
    · intro j d hd
      unfold dep at hd
      rw [Bool.and_eq_true] at hd
      obtain ⟨h1, h2⟩ := hd
      rw [ho] at h1
      simp only [Option.map_some, Option.getD_some, Array.any_eq_true, Bool.and_eq_true] at h1
      obtain ⟨k, hk, hb1, hb2⟩ := h1
      have hbj := hdep o.after[k] (by simp) hb1
      rw [show o.after[k].on = j by simpa using hb2] at hbj
      cases hoj : ops[j]? with
      | none => rw [hoj] at h2; simp at h2
      | some o' =>
        rw [hoj] at h2
        exact h.val j o' d hoj (by simpa using h2) hbj
  · intro b a' w' hall h
    exact hend b a' w' hall h.g h.defs h.size (fun s hs => h.keep s (fun j _ hd => by
      cases hoj : ops[j]? with
      | none => rw [hoj] at hd; cases hd
      | some o' =>
        rw [hoj] at hd
        obtain ⟨hj, hoj⟩ := Array.getElem?_eq_some_iff.1 hoj
        have := (Array.all_eq_true.1 hs) j hj
        rw [hoj] at this
        simp only [Option.bind_some] at hd
        rw [hd] at this
        simp at this)) (fun i o d hi hd => h.val i o d hi hd (hall i (Array.getElem?_eq_some_iff.1 hi).1))

theorem wp_region_lit_states {id : Nat} {l : List Value} {df : List Deferred} {w : World} (ds : List Nat) (hds : dstsL ops = ds) (V : Nat → World → Value → Prop) (G : (Nat → Bool) → World → Prop) (hm : P.follows .mixedOrders = true) (hb : backs ops = true) (ha : apart ops = true) (hf : fits ops l.length = true)
    (h0 : G (fun _ => false) w.drew)
    (step : ∀ i o, ops[i]? = some o → ∀ b a' w, b i = false → G b w → (∀ s, stays ops i s = true → a'.tmps.getD s undef = l.toArray.getD s undef) → (∀ j d, dep ops i j d = true → V j w (a'.tmps.getD d undef)) → (∀ j k, b j = true → waits ops j k = true → b k = true) →
      wpOp P ops Q i (fun a2 w2 => ∃ v, a2 = a'.put o.dst v ∧ G (up b i) w2 ∧ V i w2 v ∧ (∀ j u, j ≠ i ∧ waits ops j i = false → V j w u → V j w2 u)) a' w)
    (hend : ∀ b (us : Nat → Value) w, (∀ i, i < ops.size → b i = true) → G b w → (∀ i o d, ops[i]? = some o → o.dst = some d → V i w (us d)) → Q .normal ⟨(lay us ds l).toArray, df⟩ w) :
    (Code.region id ops true).wp P Q ⟨l.toArray, df⟩ w := by
  refine wp_region_states V G hm hb ha (by simpa using hf) h0 step ?_
  intro b a' w' hall hG hdf hsz hk hval
  have hsz' : a'.tmps.size = l.length := by simpa using hsz
  have e : a'.tmps = (lay (fun d => a'.tmps.getD d undef) ds l).toArray := by
    apply Array.ext'
    apply List.ext_getElem?
    intro s
    by_cases hs : s < l.length
    · rw [lay_get _ _ _ _ hs]
      have hs' : s < a'.tmps.size := by omega
      have g : a'.tmps.toList[s]? = some (a'.tmps.getD s undef) := by
        rw [Array.getElem?_toList, Array.getD_eq_getD_getElem?, Array.getElem?_eq_getElem hs']; rfl
      by_cases hd : s ∈ ds
      · rw [if_pos hd, g]
      · rw [if_neg hd, g]
        have hfree : free ops s = true := by
          unfold free
          rw [Array.all_eq_true]
          intro i hi
          rw [bne_iff_ne]
          intro ho
          apply hd
          rw [← hds]
          unfold dstsL
          rw [List.mem_filterMap]
          exact ⟨ops[i], by simp, ho⟩
        rw [hk s hfree]
        rw [Array.getD_eq_getD_getElem?]
        simp [hs]
    · have g : ¬ s < a'.tmps.toList.length := by simpa [hsz'] using hs
      rw [List.getElem?_eq_none (by omega), List.getElem?_eq_none (by simp only [lay_length]; omega)]
  have h := hend b (fun d => a'.tmps.getD d undef) w' hall hG hval
  have ea : a' = ⟨(lay (fun d => a'.tmps.getD d undef) ds l).toArray, df⟩ := by
    cases a' with
    | mk t d =>
      have hdf : d = df := hdf
      subst hdf
      exact congrArg (fun t => (⟨t, d⟩ : Act)) e
  rw [ea]
  exact h

end
end Go.Proofs.Ytgdboikoejodpaa.Flow

