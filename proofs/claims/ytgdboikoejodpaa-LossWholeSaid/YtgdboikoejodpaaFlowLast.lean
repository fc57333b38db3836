/- A drawn region whose last operation, by its data, is one: a store, or a call that writes. -/
import Derived.Test.YtgdboikoejodpaaFlowLit
namespace Go.Proofs.Ytgdboikoejodpaa.Flow
open Go Go.Proofs.Ytgdboikoejodpaa.Par
set_option linter.unusedVariables false

section
variable {P : Program} {ops : Array Oper} {Q : Exit → Act → World → Prop}

/-- k waits for i, at last. -/
def reach (ops : Array Oper) : Nat → Nat → Nat → Bool
  | 0, k, i => k == i
  | n + 1, k, i => k == i || (List.range ops.size).any fun j => waits ops k j && reach ops n j i
def lastly (ops : Array Oper) (k0 : Nat) : Bool := (List.range ops.size).all fun i => reach ops ops.size k0 i
theorem reach_b {b : Nat → Bool} (h : ∀ j i, b j = true → waits ops j i = true → b i = true) : ∀ n k i, reach ops n k i = true → b k = true → b i = true
  | 0, k, i, hr, hk => by
    have e : k = i := by simpa [reach] using hr
    exact e ▸ hk
  | n + 1, k, i, hr, hk => by
    unfold reach at hr
    rw [Bool.or_eq_true] at hr
    rcases hr with e | hr
    · have e : k = i := by simpa using e
      exact e ▸ hk
    · rw [List.any_eq_true] at hr
      obtain ⟨j, -, hj⟩ := hr
      rw [Bool.and_eq_true] at hj
      exact reach_b h n j i hj.2 (h k j hk hj.1)

structure FK (ops : Array Oper) (V : Nat → World → Value → Prop) (G : World → Prop) (k0 : Nat) (E : World → Prop) (k1 : Nat) (L : World → Prop) (a0 : Act) (b : Nat → Bool) (a : Act) (w : World) : Prop where
  pre : b k0 = false → G w ∧ (∀ i o d, ops[i]? = some o → o.dst = some d → b i = true → V i w (a.tmps.getD d undef))
  fin : b k0 = true → E w
  late : b k0 = false → b k1 = false → L w
  defs : a.defers = a0.defers
  size : a.tmps.size = a0.tmps.size
  keep : ∀ s, (∀ j, b j = true → (ops[j]?).bind (·.dst) ≠ some s) → a.tmps.getD s undef = a0.tmps.getD s undef
  closed : ∀ j i, b j = true → waits ops j i = true → b i = true

/-- A region in any order whose last operation is k0. -/
theorem wp_region_last {id : Nat} {a : Act} {w : World} (V : Nat → World → Value → Prop) (G : World → Prop) (k0 : Nat) (E : World → Prop) (k1 : Nat) (L : World → Prop) (hm : P.follows .mixedOrders = true) (hb : backs ops = true) (ha : apart ops = true) (hf : fits ops a.tmps.size = true) (hl : lastly ops k0 = true) (hk0 : k0 < ops.size)
    (h0 : G w.drew) (hL0 : L w.drew)
    (step : ∀ i o, ops[i]? = some o → i ≠ k0 → ∀ a' w, G w → (i = k1 → L w) → (∀ s, stays ops i s = true → a'.tmps.getD s undef = a.tmps.getD s undef) → (∀ j d, dep ops i j d = true → V j w (a'.tmps.getD d undef)) →
      wpOp P ops Q i (fun a2 w2 => ∃ v, a2 = a'.put o.dst v ∧ G w2 ∧ V i w2 v ∧ (∀ j u, j ≠ i ∧ waits ops j i = false → V j w u → V j w2 u) ∧ (i ≠ k1 → L w → L w2)) a' w)
    (last : ∀ o, ops[k0]? = some o → ∀ a' w, G w → (∀ s, stays ops k0 s = true → a'.tmps.getD s undef = a.tmps.getD s undef) → (∀ j d, dep ops k0 j d = true → V j w (a'.tmps.getD d undef)) →
      wpOp P ops Q k0 (fun a2 w2 => ∃ v, a2 = a'.put o.dst v ∧ E w2) a' w)
    (hend : ∀ a' w, E w → a'.defers = a.defers → a'.tmps.size = a.tmps.size → (∀ s, free ops s = true → a'.tmps.getD s undef = a.tmps.getD s undef) → Q .normal a' w) :
    (Code.region id ops true).wp P Q a w := by
  refine wp_region_inv hm (FK ops V G k0 E k1 L a) hb ⟨(fun _ => ⟨h0, (fun _ _ _ _ _ h => by cases h)⟩), (fun h => by cases h), (fun _ _ => hL0), rfl, rfl, (fun _ _ => rfl), (fun _ _ h _ => by cases h)⟩ ?_ ?_
  · intro i o ho b a' w' h hbi hdep
    have hi : i < ops.size := (Array.getElem?_eq_some_iff.1 ho).1
    have hio : ops[i] = o := (Array.getElem?_eq_some_iff.1 ho).2
    have hbk : b k0 = false := by
      cases hk : b k0 with
      | false => rfl
      | true =>
        have := reach_b h.closed ops.size k0 i (List.all_eq_true.1 hl i (List.mem_range.2 hi)) hk
        rw [this] at hbi; cases hbi
    obtain ⟨hG, hval⟩ := h.pre hbk
    have hkeep : ∀ s, stays ops i s = true → a'.tmps.getD s undef = a.tmps.getD s undef := fun s hs => h.keep s (fun j hbj hd => by
      have hj : j < ops.size := by
        cases hoj : ops[j]? with
        | none => rw [hoj] at hd; cases hd
        | some o' => exact (Array.getElem?_eq_some_iff.1 hoj).1
      have h1 := List.all_eq_true.1 hs j (List.mem_range.2 hj)
      rw [Bool.or_eq_true] at h1
      rcases h1 with h1 | h1
      · rw [bne_iff_ne] at h1; exact h1 hd
      · rw [h.closed j i hbj h1] at hbi; cases hbi)
    have hdp : ∀ j d, dep ops i j d = true → V j w' (a'.tmps.getD d undef) := by
      intro j d hd
      unfold dep at hd
      rw [Bool.and_eq_true] at hd
      obtain ⟨h1, h2⟩ := hd
      rw [ho] at h1
      simp only [Option.map_some, Option.getD_some, Array.any_eq_true, Bool.and_eq_true] at h1
      obtain ⟨k, hk, hb1, hb2⟩ := h1
      have hbj := hdep o.after[k] (by simp) hb1
      rw [show o.after[k].on = j by simpa using hb2] at hbj
      cases hoj : ops[j]? with
      | none => rw [hoj] at h2; simp at h2
      | some o' =>
        rw [hoj] at h2
        exact hval j o' d hoj (by simpa using h2) hbj
    have hcl : ∀ j k, up b i j = true → waits ops j k = true → up b i k = true := by
      intro j k hbj hw
      by_cases hki : k = i
      · subst hki; exact up_self b k
      · rw [up_ne hki]
        by_cases hji : j = i
        · subst hji
          unfold waits at hw
          rw [ho] at hw
          simp only [Option.map_some, Option.getD_some, Array.any_eq_true, Bool.and_eq_true] at hw
          obtain ⟨m, hm1, hb1, hb2⟩ := hw
          have := hdep o.after[m] (by simp) hb1
          rwa [show o.after[m].on = k by simpa using hb2] at this
        · rw [up_ne hji] at hbj
          exact h.closed j k hbj hw
    have hkp : ∀ (v : Value) s, (∀ j, up b i j = true → (ops[j]?).bind (·.dst) ≠ some s) → (a'.put o.dst v).tmps.getD s undef = a.tmps.getD s undef := by
      intro v s hs
      rw [← h.keep s (fun j hbj => hs j (by by_cases e : j = i <;> simp [up, e, hbj]))]
      cases hd : o.dst with
      | none => rfl
      | some d =>
        refine put_get_ne ?_
        rintro rfl
        exact hs i (up_self b i) (by rw [ho]; exact hd)
    by_cases hik : i = k0
    · subst hik
      refine wpOp_mono ?_ (last o ho a' w' hG hkeep hdp)
      rintro a2 w2 ⟨v, rfl, hE⟩
      refine ⟨fun hup => ?_, fun _ => hE, fun hup => ?_, ?_, ?_, hkp v, hcl⟩
      · rw [up_self] at hup; cases hup
      · rw [up_self] at hup; cases hup
      · rw [← h.defs]; cases o.dst <;> rfl
      · rw [← h.size]; cases o.dst <;> simp [Act.put]
    · refine wpOp_mono ?_ (step i o ho hik a' w' hG (fun e => h.late hbk (by rw [← e]; exact hbi)) hkeep hdp)
      rintro a2 w2 ⟨v, rfl, hG2, hV, hmono, hlate⟩
      refine ⟨fun hup => ⟨hG2, ?_⟩, fun hup => ?_, fun _ hup => ?_, ?_, ?_, hkp v, hcl⟩
      · intro j o' d' hj hd' hbj
        by_cases hji : j = i
        · subst hji
          rw [ho] at hj
          cases hj
          rw [hd']
          have hlt := (Array.all_eq_true.1 hf) j hi
          rw [hio, hd'] at hlt
          rw [put_get_self (by rw [h.size]; simpa using hlt)]
          exact hV
        · rw [up_ne hji] at hbj
          have hv := hmono _ _ ⟨hji, by
            cases hw : waits ops j i with
            | false => rfl
            | true => rw [h.closed j i hbj hw] at hbi; cases hbi⟩ (hval j o' d' hj hd' hbj)
          cases hd : o.dst with
          | none => exact hv
          | some d =>
            rw [put_get_ne]
            · exact hv
            · rintro rfl
              have hj2 := (Array.getElem?_eq_some_iff.1 hj).1
              have := List.all_eq_true.1 (List.all_eq_true.1 ha i (List.mem_range.2 hi)) j (List.mem_range.2 hj2)
              rw [ho, hj] at this
              simp [hd, hd', Ne.symm hji] at this
      · rw [up_ne (Ne.symm hik), hbk] at hup; cases hup
      · by_cases e : i = k1
        · subst e; rw [up_self] at hup; cases hup
        · rw [up_ne (Ne.symm e)] at hup; exact hlate e (h.late hbk hup)
      · rw [← h.defs]; cases o.dst <;> rfl
      · rw [← h.size]; cases o.dst <;> simp [Act.put]
  · intro b a' w' hall h
    exact hend a' w' (h.fin (hall k0 hk0)) h.defs h.size (fun s hs => h.keep s (fun j _ hd => by
      cases hoj : ops[j]? with
      | none => rw [hoj] at hd; cases hd
      | some o' =>
        rw [hoj] at hd
        obtain ⟨hj, hoj⟩ := Array.getElem?_eq_some_iff.1 hoj
        have := (Array.all_eq_true.1 hs) j hj
        rw [hoj] at this
        simp only [Option.bind_some] at hd
        rw [hd] at this
        simp at this))

theorem wp_region_lit_last {id : Nat} {l : List Value} {df : List Deferred} {w : World} (ds : List Nat) (hds : dstsL ops = ds) (V : Nat → World → Value → Prop) (G : World → Prop) (k0 : Nat) (E : World → Prop) (k1 : Nat) (L : World → Prop) (hm : P.follows .mixedOrders = true) (hb : backs ops = true) (ha : apart ops = true) (hf : fits ops l.length = true) (hl : lastly ops k0 = true) (hk0 : k0 < ops.size)
    (h0 : G w.drew) (hL0 : L w.drew)
    (step : ∀ i o, ops[i]? = some o → i ≠ k0 → ∀ a' w, G w → (i = k1 → L w) → (∀ s, stays ops i s = true → a'.tmps.getD s undef = l.toArray.getD s undef) → (∀ j d, dep ops i j d = true → V j w (a'.tmps.getD d undef)) →
      wpOp P ops Q i (fun a2 w2 => ∃ v, a2 = a'.put o.dst v ∧ G w2 ∧ V i w2 v ∧ (∀ j u, j ≠ i ∧ waits ops j i = false → V j w u → V j w2 u) ∧ (i ≠ k1 → L w → L w2)) a' w)
    (last : ∀ o, ops[k0]? = some o → ∀ a' w, G w → (∀ s, stays ops k0 s = true → a'.tmps.getD s undef = l.toArray.getD s undef) → (∀ j d, dep ops k0 j d = true → V j w (a'.tmps.getD d undef)) →
      wpOp P ops Q k0 (fun a2 w2 => ∃ v, a2 = a'.put o.dst v ∧ E w2) a' w)
    (hend : ∀ (us : Nat → Value) w, E w → Q .normal ⟨(lay us ds l).toArray, df⟩ w) :
    (Code.region id ops true).wp P Q ⟨l.toArray, df⟩ w := by
  refine wp_region_last V G k0 E k1 L hm hb ha (by simpa using hf) hl hk0 h0 hL0 step last ?_
  intro a' w' hG hdf hsz hk
  have hsz' : a'.tmps.size = l.length := by simpa using hsz
  have e : a'.tmps = (lay (fun d => a'.tmps.getD d undef) ds l).toArray := by
    apply Array.ext'
    apply List.ext_getElem?
    intro s
    by_cases hs : s < l.length
    · rw [lay_get _ _ _ _ hs]
      have hs' : s < a'.tmps.size := by omega
      have g : a'.tmps.toList[s]? = some (a'.tmps.getD s undef) := by
        rw [Array.getElem?_toList, Array.getD_eq_getD_getElem?, Array.getElem?_eq_getElem hs']; rfl
      by_cases hd : s ∈ ds
      · rw [if_pos hd, g]
      · rw [if_neg hd, g]
        have hfree : free ops s = true := by
          unfold free
          rw [Array.all_eq_true]
          intro i hi
          rw [bne_iff_ne]
          intro ho
          apply hd
          rw [← hds]
          unfold dstsL
          rw [List.mem_filterMap]
          exact ⟨ops[i], by simp, ho⟩
        rw [hk s hfree]
        rw [Array.getD_eq_getD_getElem?]
        simp [hs]
    · have g : ¬ s < a'.tmps.toList.length := by simpa [hsz'] using hs
      rw [List.getElem?_eq_none (by omega), List.getElem?_eq_none (by simp only [lay_length]; omega)]
  have h := hend (fun d => a'.tmps.getD d undef) w' hG
  have ea : a' = ⟨(lay (fun d => a'.tmps.getD d undef) ds l).toArray, df⟩ := by
    cases a' with
    | mk t d =>
      have hdf : d = df := hdf
      subst hdf
      exact congrArg (fun t => (⟨t, d⟩ : Act)) e
  rw [ea]
  exact h

end
end Go.Proofs.Ytgdboikoejodpaa.Flow
