/- Short numbers, plain: what is put is read, and nothing is left; a number cut is short. -/
import Derived.Test.YtmccghadgihbpaaVPut
import Derived.Test.YtmccghadgihbpaaReader
namespace Go.Proofs.Ytmccghadgihbpaa.VPlain
open Go.Proofs.Ytmccghadgihbpaa.VPut Go.Proofs.Ytmccghadgihbpaa.Reader
set_option linter.unusedVariables false

/-- Numbers' bytes, one number behind the other. -/
def flat : List Int → List Int
  | [] => []
  | n :: r => vbytes n ++ flat r

theorem flat_append (a b : List Int) : flat (a ++ b) = flat a ++ flat b := by
  induction a with
  | nil => rfl
  | cons n r ih => simp [flat, ih]

theorem vput_flat : ∀ (l : List Int) (out : List Int), (∀ n ∈ l, 0 ≤ n ∧ n < 4611686018427387904) → vput out l = some (out ++ flat l)
  | [], out, _ => by simp [vput, flat]
  | n :: r, out, h => by
    rw [vput, if_pos (h n (by simp)).2, vput_flat r _ (fun m hm => h m (by simp [hm])), flat, List.append_assoc]

theorem vbytes_fit (n : Int) (h0 : 0 ≤ n) (h1 : n < 4611686018427387904) : ∀ x ∈ vbytes n, 0 ≤ x ∧ x < 256 := by
  intro x hx
  unfold vbytes at hx
  split at hx
  · simp at hx; omega
  · split at hx
    · simp at hx; omega
    · split at hx
      · simp at hx; omega
      · simp at hx; omega

theorem flat_fit : ∀ (l : List Int), (∀ n ∈ l, 0 ≤ n ∧ n < 4611686018427387904) → ∀ x ∈ flat l, 0 ≤ x ∧ x < 256
  | [], _, x, hx => by simp [flat] at hx
  | n :: r, h, x, hx => by
    rw [flat, List.mem_append] at hx
    rcases hx with hx | hx
    · exact vbytes_fit n (h n (by simp)).1 (h n (by simp)).2 x hx
    · exact flat_fit r (fun m hm => h m (by simp [hm])) x hx

theorem flat_len : ∀ (l : List Int), (flat l).length ≤ 8 * l.length
  | [] => by simp [flat]
  | n :: r => by
    have := flat_len r
    have := vbytes_length n
    simp only [flat, List.length_append, List.length_cons]
    omega

theorem rNum_vbytes (n : Int) (rest : List Int) (h0 : 0 ≤ n) (h1 : n < 4611686018427387904) : rNum 0 (vbytes n ++ rest) = (n, 0, rest) := by
  unfold vbytes
  split
  · have hx : (n / 64).toNat = 0 := by omega
    simp only [rNum, List.cons_append, List.nil_append]
    rw [hx]
    have hb : rBytes 0 (n :: rest) (2 ^ 0) = ([n], 0, rest) := by
      unfold rBytes; rw [if_neg (by decide), if_neg (by simp; omega)]; rfl
    rw [hb]
    simp only [numOf, List.foldl_nil]
    exact Prod.ext (by simp only []; omega) rfl
  · split
    · have hx : ((n / 256 + 64) / 64).toNat = 1 := by omega
      simp only [rNum, List.cons_append, List.nil_append]
      rw [hx]
      have hb : rBytes 0 ((n / 256 + 64) :: n % 256 :: rest) (2 ^ 1) = ([n / 256 + 64, n % 256], 0, rest) := by
        unfold rBytes; rw [if_neg (by decide), if_neg (by simp; omega)]; rfl
      rw [hb]
      simp only [numOf, List.foldl_cons, List.foldl_nil]
      exact Prod.ext (by simp only []; omega) rfl
    · split
      · have hx : ((n / 16777216 + 128) / 64).toNat = 2 := by omega
        simp only [rNum, List.cons_append, List.nil_append]
        rw [hx]
        have hb : rBytes 0 ((n / 16777216 + 128) :: n / 65536 % 256 :: n / 256 % 256 :: n % 256 :: rest) (2 ^ 2) = ([n / 16777216 + 128, n / 65536 % 256, n / 256 % 256, n % 256], 0, rest) := by
          unfold rBytes; rw [if_neg (by decide), if_neg (by simp; omega)]; rfl
        rw [hb]
        simp only [numOf, List.foldl_cons, List.foldl_nil]
        exact Prod.ext (by simp only []; omega) rfl
      · have hx : ((n / 72057594037927936 + 192) / 64).toNat = 3 := by omega
        simp only [rNum, List.cons_append, List.nil_append]
        rw [hx]
        have hb : rBytes 0 ((n / 72057594037927936 + 192) :: n / 281474976710656 % 256 :: n / 1099511627776 % 256 :: n / 4294967296 % 256 :: n / 16777216 % 256 :: n / 65536 % 256 :: n / 256 % 256 :: n % 256 :: rest) (2 ^ 3) = ([n / 72057594037927936 + 192, n / 281474976710656 % 256, n / 1099511627776 % 256, n / 4294967296 % 256, n / 16777216 % 256, n / 65536 % 256, n / 256 % 256, n % 256], 0, rest) := by
          unfold rBytes; rw [if_neg (by decide), if_neg (by simp; omega)]; rfl
        rw [hb]
        simp only [numOf, List.foldl_cons, List.foldl_nil]
        exact Prod.ext (by simp only []; omega) rfl

theorem short_of {x : Int} {r : List Int} {m : Nat} (hx : (x / 64).toNat = m) (hr : (r.length : Int) + 1 < 2 ^ m) : (rNum 0 (x :: r)).2.1 = 3 := by
  simp only [rNum]
  rw [hx]
  unfold rBytes
  rw [if_neg (by decide), if_pos (by simp only [List.length_cons]; push_cast; omega)]

/-- A number without its end is short. -/
theorem rNum_cut (n : Int) (k : Nat) (h0 : 0 ≤ n) (h1 : n < 4611686018427387904) (hk : k < (vbytes n).length) : (rNum 0 ((vbytes n).take k)).2.1 = 3 := by
  unfold vbytes at hk ⊢
  cases k with
  | zero => simp [rNum, rFail]
  | succ k =>
    split
    · rename_i h; rw [if_pos h] at hk; simp at hk
    · rename_i hh; rw [if_neg hh] at hk
      split
      · rename_i h; rw [if_pos h] at hk
        simp only [List.length_cons, List.length_nil] at hk
        simp only [List.take_succ_cons]
        exact short_of (m := 1) (by omega) (by simp only [List.length_take, List.length_cons, List.length_nil]; omega)
      · rename_i hh2; rw [if_neg hh2] at hk
        split
        · rename_i h; rw [if_pos h] at hk
          simp only [List.length_cons, List.length_nil] at hk
          simp only [List.take_succ_cons]
          exact short_of (m := 2) (by omega) (by simp only [List.length_take, List.length_cons, List.length_nil]; omega)
        · rename_i h; rw [if_neg h] at hk
          simp only [List.length_cons, List.length_nil] at hk
          simp only [List.take_succ_cons]
          exact short_of (m := 3) (by omega) (by simp only [List.length_take, List.length_cons, List.length_nil]; omega)

end Go.Proofs.Ytmccghadgihbpaa.VPlain
