/- How an argument's reading is opened for a walk: an array of whole numbers. Plain laws over the model. -/
import Derived.Test.YtmccghadgihbpaaOpen
namespace Go.Proofs.Ytmccghadgihbpaa.Open
open Go.ChangeShapes Go.WideShapes Go.ChangeAt Go.RowKit Go.Proofs.YtmccghadgihbpaaW.PrintWords

theorem mapM_arr {H : Type} {enc : TypeId × Value → H} {P : Program} {w : World} {e : TypeId} {k : IntKind} (he : P.underlying e = some (.int k)) {m : Nat} {cs : List Value} {c : Nat} : ∀ (L : List Nat) (xs : List (DataW H × List MemPlace)),
    L.mapM (fun i => DataW.trod enc P w 0 (fun _ => true) true m e ((cs.drop (i * c)).take c)) = some xs →
    ∃ ls : List Int, (∀ x ∈ ls, (Lit.int k x).wf = true) ∧ L.map (fun i => (cs.drop (i * c)).take c) = ls.map fun x => [Value.int k x]
  | [], xs, _ => ⟨[], by simp, rfl⟩
  | i :: L, xs, h => by
    rw [List.mapM_cons] at h
    simp only [bind, Option.bind_eq_some_iff, pure, Option.some.injEq] at h
    obtain ⟨y, hy, ys, hys, rfl⟩ := h
    obtain ⟨ls, hw, hl⟩ := mapM_arr he L ys hys
    obtain ⟨a, ea, rfl, wa⟩ := DataW.trod_int he hy
    refine ⟨a :: ls, ?_, ?_⟩
    · intro x hx
      rcases List.mem_cons.1 hx with rfl | hx
      · exact wa
      · exact hw x hx
    · rw [List.map_cons, List.map_cons, hl, ea]

/-- An array of whole numbers, out of what its cells read as. -/
theorem trod_arr {H : Type} {enc : TypeId × Value → H} {P : Program} {w : World} {t e : TypeId} {k : IntKind} {n : Nat} {r : Reach} {b0 : Nat} {v : Value} {fuel : Nat} {y : DataW H × List MemPlace}
    (ht : P.underlying t = some (.array n e)) (he : P.underlying e = some (.int k)) (hc : P.cellsOf e = 1) (hct : P.cellsOf t = n) (hok : Value.okWide P w r b0 t v) (h : DataW.trod enc P w 0 (fun _ => true) true fuel t v.cells.toList = some y) :
    ∃ l : List Int, v = .agg (l.map (Value.int k)).toArray ∧ l.length = n ∧ (∀ x ∈ l, (Lit.int k x).wf = true) := by
  simp only [Value.okWide, ht] at hok
  obtain ⟨xs, rfl, hn, -⟩ := hok
  rw [hct] at hn
  cases fuel with
  | zero => simp [DataW.trod] at h
  | succ m =>
    rw [DataW.trod_step] at h
    unfold DataW.trodStep at h
    simp only [ht, Value.cells] at h
    split at h
    · simp only [Option.map_eq_some_iff] at h
      obtain ⟨ys, hy, e1⟩ := h
      rw [hc] at hy
      obtain ⟨l, hw, hl⟩ := mapM_arr he _ ys hy
      have hlen : l.length = n := by
        have := congrArg List.length hl
        simpa using this.symm
      refine ⟨l, ?_, hlen, hw⟩
      congr 1
      apply Array.ext
      · simp [hlen, hn]
      · intro i h1 h2
        have := congrArg (fun z => z[i]?) hl
        have hi : i < n := by omega
        simp only [List.getElem?_map, List.getElem?_range hi, Option.map_some, Nat.mul_one] at this
        have hil : i < l.length := by omega
        rw [List.getElem?_eq_getElem hil] at this
        simp only [Option.map_some, Option.some.injEq] at this
        have h3 : xs.toList.drop i = xs[i] :: xs.toList.drop (i + 1) := by
          have hit : i < xs.toList.length := by simpa using h1
          rw [List.drop_eq_getElem_cons hit]
          simp
        rw [h3] at this
        simp at this
        simp [this]
    · cases h

end Go.Proofs.Ytmccghadgihbpaa.Open
