/- The head as the program puts it is the head as the document puts it: any head, any number, any size. The plain part. -/
import Derived.Test.YtmccghadgihbpaaPHeadPutsx2
import Derived.Test.YtmccghadgihbpaaPHeadPutsx3
import Derived.Laws.BitsAllLaws
namespace Go.Proofs.Ytmccghadgihbpaa.PlainHeadPuts
open Go.RowKit Go.Proofs.Ytmccghadgihbpaa.PHeadPuts Go.Proofs.YtmccghadgihbpaaW.PrintWords Go.Proofs.YtmccghadgihbpaaW.PrintLast
open Go.Proofs.YtmccghadgihbpaaW.PrintMore

theorem l0_same : ∀ (k : Nat) (a : Int) (l : List Int) (i : Int), head_Put.l0 k a l i = skiffref10_Head.l0 k a l i
  | 0, _, _, _ => rfl
  | k + 1, a, l, i => by
    simp only [head_Put.l0, skiffref10_Head.l0, l0_same k]

theorem l0_some (a : Int) : ∀ (n : Nat) (k : Nat) (l : List Int), n < 5 → n < k → l.length + n < 1000 → ∃ r, skiffref10_Head.l0 k a l ((n : Int) - 1) = some (r, 0)
  | 0, k, l, _, hk, _ => by
    obtain ⟨k, rfl⟩ : ∃ m, k = m + 1 := ⟨k - 1, by omega⟩
    exact ⟨l, by simp [skiffref10_Head.l0]⟩
  | n + 1, k, l, h5, hk, hl => by
    obtain ⟨k, rfl⟩ : ∃ m, k = m + 1 := ⟨k - 1, by omega⟩
    have e1 : wrap64 (8 * (((n + 1 : Nat) : Int) - 1)) = 8 * n := by unfold wrap64; omega
    have e2 : wrap64 ((((n + 1 : Nat) : Int) - 1) - 1) = (n : Int) - 1 := by unfold wrap64; omega
    simp only [skiffref10_Head.l0]
    rw [if_pos (by omega), e1, if_pos (by omega), if_pos (by omega), e2]
    exact l0_some a n k _ (by omega) (by omega) (by simp; omega)

theorem put_same (sp pn bytes size : Int) (tt ff : List Int) :
    ∃ r1 r2, head_Put.f 10 sp tt ff pn bytes size = some (r1, r2) ∧ skiffref10_Head.f 10 sp tt ff pn bytes size = some (r1, r2) := by
  by_cases hv : 0 ≤ sp ∧ sp ≤ 2 ∧ tt.length = 8 ∧ (sp < 2 → ff.length = 8) ∧ 1 ≤ bytes ∧ bytes ≤ 4 ∧ 0 ≤ size ∧ size ≤ 1200
  · obtain ⟨s0, s2, ht, hf, b1, b4, z0, z1⟩ := hv
    have e0 : decide (size > 1200) = false := decide_eq_false (by omega)
    have ea : head_Put.f 10 sp tt ff pn bytes size = head_Put.j0 10 pn bytes size false sp tt ff := by
      unfold head_Put.f
      rw [if_pos (by omega), if_neg (by omega), if_neg (by omega), if_neg (by omega), if_neg (by omega), if_neg (by omega), e0]
    have eb : skiffref10_Head.f 10 sp tt ff pn bytes size = skiffref10_Head.j0 10 pn bytes size false sp tt ff := by
      unfold skiffref10_Head.f
      rw [if_neg (by omega), if_neg (by omega), if_pos (by omega)]
      by_cases c : sp < 2
      · have := hf c
        rw [if_pos c, if_pos (by omega), if_neg (by omega), if_neg (by omega), if_neg (by omega), e0]
      · rw [if_neg c, if_neg (by omega), if_neg (by omega), if_neg (by omega), e0]
    have en : wrap64 (bytes - 1) = ((bytes.toNat : Nat) : Int) - 1 := by unfold wrap64; omega
    have e1 : Go.bits .or .u8 64 (wrap64 (bytes - 1) % 256) = wrap64 (63 + bytes) % 256 := by
      rcases (by omega : bytes = 1 ∨ bytes = 2 ∨ bytes = 3 ∨ bytes = 4) with rfl | rfl | rfl | rfl <;> decide +kernel
    have e3 : Go.bits .or .u8 64 (wrap64 (bytes + size) / 256 % 256) = wrap64 (64 + wrap64 (Int.tdiv (wrap64 (bytes + size)) 256)) % 256 := by
      have w1 : wrap64 (bytes + size) = bytes + size := by unfold wrap64; omega
      rw [w1, Int.tdiv_eq_ediv_of_nonneg (by omega)]
      have hq : 0 ≤ (bytes + size) / 256 ∧ (bytes + size) / 256 ≤ 4 := by omega
      generalize (bytes + size) / 256 = q at *
      rcases (by omega : q = 0 ∨ q = 1 ∨ q = 2 ∨ q = 3 ∨ q = 4) with rfl | rfl | rfl | rfl | rfl <;> decide +kernel
    have e4 : wrap64 (bytes + size) % 256 = Int.tmod (wrap64 (bytes + size)) 256 % 256 := by
      have w1 : wrap64 (bytes + size) = bytes + size := by unfold wrap64; omega
      rw [w1, Int.tmod_eq_emod_of_nonneg (by omega)]; omega
    rw [ea, eb]
    simp only [head_Put.j0, skiffref10_Head.j0, head_Put.j1, skiffref10_Head.j1, Option.bind_some, if_neg (show ¬ (false = true) by decide), l0_same, en]
    by_cases c2 : sp = 2
    · rw [if_pos c2, if_pos c2]
      simp only [en] at e1
      rw [e1, if_pos (by simp; omega)]
      obtain ⟨r, hr⟩ := l0_some pn bytes.toNat 8 ([wrap64 (63 + bytes) % 256] ++ tt) (by omega) (by omega) (by simp; omega)
      exact ⟨r, 0, hr, hr⟩
    · have hf8 := hf (by omega)
      have e2 : Go.bits .or .u8 (Go.bits .or .u8 192 (wrap64 (sp * 32) % 256)) (wrap64 (bytes - 1) % 256) = wrap64 (wrap64 (191 + wrap64 (32 * sp)) + bytes) % 256 := by
        rcases (by omega : bytes = 1 ∨ bytes = 2 ∨ bytes = 3 ∨ bytes = 4) with rfl | rfl | rfl | rfl <;> rcases (by omega : sp = 0 ∨ sp = 1) with rfl | rfl <;> decide +kernel
      simp only [en] at e2
      rw [if_neg c2, if_neg c2, if_pos (by omega), e2, e3, e4]
      by_cases c0 : sp = 0
      · simp only [if_pos c0, List.length_append, List.length_cons, List.length_nil, ht, hf8, Nat.reduceAdd, Nat.reduceLT, if_true]
        obtain ⟨r, hr⟩ := l0_some pn bytes.toNat 8 ([wrap64 (wrap64 (191 + wrap64 (32 * sp)) + bytes) % 256, 0, 0, 0, 1, 8] ++ tt ++ [8] ++ ff ++ [0] ++ [wrap64 (64 + wrap64 ((wrap64 (bytes + size)).tdiv 256)) % 256, (wrap64 (bytes + size)).tmod 256 % 256]) (by omega) (by omega) (by simp only [List.length_append, List.length_cons, List.length_nil, ht, hf8]; omega)
        exact ⟨r, 0, hr, hr⟩
      · simp only [if_neg c0, List.length_append, List.length_cons, List.length_nil, ht, hf8, Nat.reduceAdd, Nat.reduceLT, if_true]
        obtain ⟨r, hr⟩ := l0_some pn bytes.toNat 8 ([wrap64 (wrap64 (191 + wrap64 (32 * sp)) + bytes) % 256, 0, 0, 0, 1, 8] ++ tt ++ [8] ++ ff ++ [wrap64 (64 + wrap64 ((wrap64 (bytes + size)).tdiv 256)) % 256, (wrap64 (bytes + size)).tmod 256 % 256]) (by omega) (by omega) (by simp only [List.length_append, List.length_cons, List.length_nil, ht, hf8]; omega)
        exact ⟨r, 0, hr, hr⟩
  · refine ⟨[], 2, ?_, ?_⟩
    · unfold head_Put.f
      have stop : ∀ (x : Bool), (x = true ∨ (x = false ∧ 0 ≤ sp ∧ sp < 2 ∧ ff.length ≠ 8)) → head_Put.j0 10 pn bytes size x sp tt ff = some ([], 2) := by
        intro x hx
        simp only [head_Put.j0]
        rcases hx with rfl | ⟨rfl, h3, h4, h5⟩
        · rw [if_pos rfl]
        · rw [if_neg (by decide), if_neg (by omega), if_neg (by omega)]
      (repeat' split) <;> (refine stop _ ?_; first | exact .inl rfl | skip)
      by_cases c : size > 1200
      · exact .inl (decide_eq_true c)
      · exact .inr ⟨decide_eq_false c, by omega, by omega, by omega⟩
    · unfold skiffref10_Head.f
      have stop : ∀ (x : Bool), x = true → skiffref10_Head.j0 10 pn bytes size x sp tt ff = some ([], 2) := by
        intro x hx
        simp only [skiffref10_Head.j0]
        rw [if_pos hx]
      (repeat' split) <;> (refine stop _ ?_; first | rfl | exact decide_eq_true (by omega))
end Go.Proofs.Ytmccghadgihbpaa.PlainHeadPuts
