/- How an argument's reading is opened for a walk: a slice of whole numbers, and a field that is one. Plain laws over the model. -/
import Derived.Test.YtgdboikoejodpaaWWords
import Derived.Lib.SmallJoins
import Derived.OpenShut
import Derived.ShutString
import Derived.ChangeOld
namespace Go.Proofs.Ytgdboikoejodpaa.Open
open Go.ChangeShapes Go.WideShapes Go.ChangeAt Go.RowKit Go.Proofs.YtgdboikoejodpaaW.PrintWords

/-- A slice of whole numbers, out of what its cells read as. -/
theorem trod_ints {H : Type} {enc : TypeId × Value → H} {P : Program} {w : World} {t e : TypeId} {k : IntKind} {fuel : Nat} {cs : List Value} {y : DataW H × List MemPlace}
    (ht : P.underlying t = some (.slice e)) (he : P.underlying e = some (.int k)) (hc : P.cellsOf e = 1) (h : DataW.trod enc P w 0 (fun _ => true) true fuel t cs = some y) :
    ∃ (A : Option Addr) (l : List Int) (c : Nat), cs = [.slice A l.length c] ∧ Kd.C (Kd.int k) w A l.length l ∧ l.length ≤ c ∧ l.length ≤ maxLen ∧ (∀ x ∈ l, (Lit.int k x).wf = true) := by
  rcases open_ints ht he hc h with ⟨rfl, _⟩ | ⟨x, n, c, zs, rfl, _, hl, hm, hz, _, hcell, hwz⟩
  · exact ⟨none, [], 0, rfl, Kd.C_nil _ _, Nat.le_refl _, by simp, by simp⟩
  · obtain ⟨l, rfl, h1, h2, h3, h4⟩ := ReadsInt.ofRowC (k := k) (w := w) (a := some x) (len := n) (cap := c) (zs := zs) (.inr ⟨x, rfl, hl, hm, by simpa using hz, hcell, hwz⟩)
    exact ⟨some x, l, c, rfl, Kd.C_of_reads (d := (0 : Int)) (h1 := fun _ => rfl) h1, h4, h2, h3⟩

end Go.Proofs.Ytgdboikoejodpaa.Open
