/- The spans of an ACK: the program's test and the document's are one. The plain part. -/
import Derived.Test.YtmccghadgihbpaaPFrameBackx2
import Derived.Test.YtmccghadgihbpaaRight
namespace Go.Proofs.Ytmccghadgihbpaa.Spans
open Go Go.RowKit Go.Proofs.Ytmccghadgihbpaa.PFrameBack Go.Proofs.YtmccghadgihbpaaW.PrintWords Go.Proofs.YtmccghadgihbpaaW.PrintLast Go.Proofs.YtmccghadgihbpaaW.PrintMore
set_option linter.unusedVariables false

def bd (n : Int) : Prop := 0 ≤ n ∧ n < 18446744073709551616
def bds (l : List S84) : Prop := ∀ s ∈ l, bd s.f0 ∧ bd s.f1

/-- The span at place i stands as it may. -/
def okAt (l : List S84) (i : Nat) : Prop :=
  (rd_T84 l i).f0 ≤ (rd_T84 l i).f1 ∧ (rd_T84 l i).f1 ≤ 4611686018427387903 ∧ (0 < i → (rd_T84 l i).f1 + 2 ≤ (rd_T84 l ((i : Int) - 1)).f0)
instance (l : List S84) (i : Nat) : Decidable (okAt l i) := by unfold okAt; infer_instance
def okFrom (l : List S84) (i : Nat) : Prop := ∀ j, j < l.length → i ≤ j → okAt l j
instance (l : List S84) (i : Nat) : Decidable (okFrom l i) := by unfold okFrom; infer_instance
def okS (l : List S84) : Bool := decide (0 < l.length ∧ l.length ≤ 32 ∧ okFrom l 0)

theorem rd_bd {l : List S84} (h : bds l) (i : Int) : bd (rd_T84 l i).f0 ∧ bd (rd_T84 l i).f1 := by
  unfold rd_T84
  rw [List.getD_eq_getElem?_getD]
  cases hg : l[i.toNat]? with
  | none => exact ⟨⟨by decide, by decide⟩, ⟨by decide, by decide⟩⟩
  | some s => exact h s (List.mem_of_getElem? hg)

theorem okFrom_step {l : List S84} {i : Nat} (h : i < l.length) : okFrom l i ↔ okAt l i ∧ okFrom l (i + 1) := by
  constructor
  · intro hf
    exact ⟨hf i h (Nat.le_refl _), fun j hj hi => hf j hj (by omega)⟩
  · rintro ⟨h1, h2⟩ j hj hi
    by_cases he : j = i
    · subst he; exact h1
    · exact h2 j hj (by omega)

theorem spans_l0 {l : List S84} (hb : bds l) (hl : l.length ≤ 1000) : ∀ (m k i : Nat), l.length - i = m → i ≤ l.length → m < k →
    frame_spans.l0 k l l (l.length : Int) i = some (decide (okFrom l i ∧ 0 < l.length ∧ l.length ≤ 32)) := by
  intro m
  induction m with
  | zero =>
    intro k i hm hi hk
    obtain ⟨k, rfl⟩ : ∃ q, k = q + 1 := ⟨k - 1, by omega⟩
    have he : i = l.length := by omega
    simp only [frame_spans.l0]
    rw [if_neg (by omega)]
    have hv : okFrom l i := fun j hj hij => by omega
    by_cases h0 : 0 < l.length
    · rw [if_pos (by omega)]
      simp only [hv, h0, true_and]
      congr 1
      exact decide_eq_decide.2 (by omega)
    · rw [if_neg (by omega)]
      simp [h0]
  | succ m ih =>
    intro k i hm hi hk
    obtain ⟨k, rfl⟩ : ∃ q, k = q + 1 := ⟨k - 1, by omega⟩
    have hlt : i < l.length := by omega
    have e1 : wrap64 ((i : Int) + 1) = ((i + 1 : Nat) : Int) := by unfold wrap64; omega
    have e2 : wrap64 ((i : Int) - 1) = (i : Int) - 1 := by unfold wrap64; omega
    have hst := okFrom_step hlt
    obtain ⟨⟨a0, a1⟩, c0, c1⟩ := rd_bd hb (i : Int)
    obtain ⟨⟨p0, p1⟩, -⟩ := rd_bd hb ((i : Int) - 1)
    simp only [frame_spans.l0]
    rw [if_pos (by omega), if_pos (by omega), if_pos (by omega), e1, e2]
    have rec_ := ih k (i + 1) (by omega) (by omega) (by omega)
    have no : ¬ okAt l i → (some false : Option Bool) = some (decide (okFrom l i ∧ 0 < l.length ∧ l.length ≤ 32)) := by
      intro h
      have : ¬ okFrom l i := fun hf => h (hst.1 hf).1
      simp [this]
    have yes : okAt l i → some (decide (okFrom l (i + 1) ∧ 0 < l.length ∧ l.length ≤ 32)) = some (decide (okFrom l i ∧ 0 < l.length ∧ l.length ≤ 32)) := by
      intro h
      congr 1
      exact decide_eq_decide.2 (by rw [hst]; simp [h])
    by_cases c1' : (rd_T84 l i).f0 > (rd_T84 l i).f1
    · rw [if_pos c1']; exact no (fun h => by have := h.1; omega)
    · rw [if_neg c1']
      by_cases c2 : (rd_T84 l i).f1 > 4611686018427387903
      · rw [if_pos c2]; exact no (fun h => by have := h.2.1; omega)
      · rw [if_neg c2]
        by_cases c3 : (i : Int) > 0
        · rw [if_pos c3, if_pos (by omega), if_pos (by omega)]
          by_cases c4 : (rd_T84 l ((i : Int) - 1)).f0 < 2
          · rw [if_pos c4]; exact no (fun h => by have := h.2.2 (by omega); omega)
          · rw [if_neg c4]
            have ew : IntKind.u64.wrap ((rd_T84 l ((i : Int) - 1)).f0 - 2) = (rd_T84 l ((i : Int) - 1)).f0 - 2 := by rw [IntKind.wrap_u64]; omega
            rw [ew]
            by_cases c5 : (rd_T84 l i).f1 > (rd_T84 l ((i : Int) - 1)).f0 - 2
            · rw [if_pos c5]; exact no (fun h => by have := h.2.2 (by omega); omega)
            · rw [if_neg c5, rec_]; exact yes ⟨by omega, by omega, fun _ => by omega⟩
        · rw [if_neg c3, rec_]; exact yes ⟨by omega, by omega, fun h => by omega⟩

theorem spans_f {l : List S84} (hb : bds l) (hl : l.length ≤ 1000) : frame_spans.f 1001 l = some (okS l) := by
  unfold frame_spans.f
  have h := spans_l0 hb hl (l.length) 1001 0 (by omega) (by omega) (by omega)
  refine h.trans ?_
  congr 1
  exact decide_eq_decide.2 ⟨fun h => ⟨h.2.1, h.2.2, h.1⟩, fun h => ⟨h.2.2, h.1, h.2.1⟩⟩

theorem right_l0 {l : List S84} (hb : bds l) (hl : l.length ≤ 1000) : ∀ (m k i : Nat), l.length - i = m → i ≤ l.length → 2 * m < k →
    skiffref10_Right.l0 k l i = some (decide (okFrom l i)) := by
  intro m
  induction m with
  | zero =>
    intro k i hm hi hk
    obtain ⟨k, rfl⟩ : ∃ q, k = q + 1 := ⟨k - 1, by omega⟩
    simp only [skiffref10_Right.l0]
    rw [if_neg (by omega)]
    have hv : okFrom l i := fun j hj hij => by omega
    simp [hv]
  | succ m ih =>
    intro k i hm hi hk
    obtain ⟨k, rfl⟩ : ∃ q, k = q + 2 := ⟨k - 2, by omega⟩
    have hlt : i < l.length := by omega
    have e1 : wrap64 ((i : Int) + 1) = ((i + 1 : Nat) : Int) := by unfold wrap64; omega
    have e2 : wrap64 ((i : Int) - 1) = (i : Int) - 1 := by unfold wrap64; omega
    have hst := okFrom_step hlt
    obtain ⟨⟨a0, a1⟩, c0, c1⟩ := rd_bd hb (i : Int)
    obtain ⟨⟨p0, p1⟩, -⟩ := rd_bd hb ((i : Int) - 1)
    have rec_ := ih k (i + 1) (by omega) (by omega) (by omega)
    have no : ¬ okAt l i → (some false : Option Bool) = some (decide (okFrom l i)) := by
      intro h
      have : ¬ okFrom l i := fun hf => h (hst.1 hf).1
      simp [this]
    have yes : okAt l i → some (decide (okFrom l (i + 1))) = some (decide (okFrom l i)) := by
      intro h
      congr 1
      exact decide_eq_decide.2 (by rw [hst]; simp [h])
    simp only [skiffref10_Right.l0, skiffref10_Right.j2]
    rw [if_pos (by omega), if_pos (by omega), e1, e2]
    by_cases c1' : (rd_T84 l i).f0 > (rd_T84 l i).f1
    · rw [if_pos c1', if_pos trivial]; exact no (fun h => by have := h.1; omega)
    · rw [if_neg c1']
      by_cases c2 : (rd_T84 l i).f1 > 4611686018427387903
      · rw [if_pos (decide_eq_true c2)]; exact no (fun h => by have := h.2.1; omega)
      · rw [if_neg (by simpa using c2)]
        by_cases c3 : (i : Int) > 0
        · rw [if_pos c3, if_pos (by omega), if_pos (by omega), if_pos (by omega), if_pos (by omega)]
          by_cases c4 : (rd_T84 l i).f1 ≥ (rd_T84 l ((i : Int) - 1)).f0
          · rw [if_pos c4]; exact no (fun h => by have := h.2.2 (by omega); omega)
          · rw [if_neg c4]
            have ew : IntKind.u64.wrap ((rd_T84 l ((i : Int) - 1)).f0 - (rd_T84 l i).f1) = (rd_T84 l ((i : Int) - 1)).f0 - (rd_T84 l i).f1 := by rw [IntKind.wrap_u64]; omega
            rw [ew]
            by_cases c5 : (rd_T84 l ((i : Int) - 1)).f0 - (rd_T84 l i).f1 < 2
            · rw [if_pos c5]; exact no (fun h => by have := h.2.2 (by omega); omega)
            · rw [if_neg c5, rec_]; exact yes ⟨by omega, by omega, fun _ => by omega⟩
        · rw [if_neg c3, rec_]; exact yes ⟨by omega, by omega, fun h => by omega⟩

theorem right_f {l : List S84} (hb : bds l) (hl : l.length ≤ 1000) : skiffref10_Right.f 2100 l = some (okS l) := by
  unfold skiffref10_Right.f okS
  by_cases h1 : (l.length : Int) < 1
  · rw [if_pos h1]
    simp only [skiffref10_Right.j0]
    have : ¬ (0 < l.length) := by omega
    simp [this]
  · rw [if_neg h1]
    have h0 : 0 < l.length := by omega
    simp only [skiffref10_Right.j0]
    by_cases h2 : (l.length : Int) > 32
    · rw [if_pos (decide_eq_true h2)]
      have : ¬ (l.length ≤ 32) := by omega
      simp [this]
    · rw [if_neg (by simpa using h2)]
      have h := right_l0 hb hl (l.length) 2099 0 (by omega) (by omega) (by omega)
      refine h.trans ?_
      congr 1
      exact decide_eq_decide.2 ⟨fun h => ⟨h0, by omega, h⟩, fun h => h.2.2⟩

/-- The gaps and lengths behind the first span, up to place n. -/
def gapsN (l : List S84) : Nat → List Int
  | 0 => []
  | n + 1 => gapsN l n ++ [(rd_T84 l (n : Int)).f0 - (rd_T84 l ((n + 1 : Nat) : Int)).f1 - 2, (rd_T84 l ((n + 1 : Nat) : Int)).f1 - (rd_T84 l ((n + 1 : Nat) : Int)).f0]
/-- An ACK's numbers. -/
def ackNums (n : Int) (l : List S84) : List Int := [2, (rd_T84 l 0).f1, n, (l.length : Int) - 1, (rd_T84 l 0).f1 - (rd_T84 l 0).f0] ++ gapsN l (l.length - 1)

theorem gapsN_bd {l : List S84} (hb : bds l) (hok : okFrom l 0) : ∀ n, n < l.length → ∀ x ∈ gapsN l n, 0 ≤ x ∧ x < 4611686018427387904
  | 0, _, x, h => by cases h
  | n + 1, hn, x, h => by
    rcases List.mem_append.1 h with h | h
    · exact gapsN_bd hb hok n (by omega) x h
    · obtain ⟨g1, g2, g3⟩ := hok (n + 1) hn (Nat.zero_le _)
      obtain ⟨q1, q2, q3⟩ := hok n (by omega) (Nat.zero_le _)
      have g4 := g3 (by omega)
      rw [show (((n + 1 : Nat) : Int) - 1) = (n : Int) by omega] at g4
      obtain ⟨⟨a0, a1⟩, -⟩ := rd_bd hb ((n + 1 : Nat) : Int)
      simp only [List.mem_cons, List.not_mem_nil, or_false] at h
      rcases h with rfl | rfl <;> omega
theorem gapsN_len (l : List S84) : ∀ n, (gapsN l n).length = 2 * n
  | 0 => rfl
  | n + 1 => by simp only [gapsN, List.length_append, gapsN_len l n, List.length_cons, List.length_nil]; omega
end Go.Proofs.Ytmccghadgihbpaa.Spans
