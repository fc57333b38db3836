/- Plain laws of numbers that the head's statements use: taking the low bits of one number and the high bits of another. -/
import Derived.Laws.BitsAllLaws
import Derived.Laws.Bits64
namespace Go.Proofs.Ytmccghadgihbpaa.HeadArith
open Go

theorem hi_bits (j a : Nat) (hj : j ≤ 64) (ha : a < 2 ^ 64) : a &&& (2 ^ 64 - ((2 ^ j - 1) + 1)) = 2 ^ j * (a / 2 ^ j) := by
  apply Nat.eq_of_testBit_eq
  intro i
  have hlt : 2 ^ j - 1 < 2 ^ 64 := by
    have : 2 ^ j ≤ 2 ^ 64 := Nat.pow_le_pow_right (by omega) hj
    have : 0 < 2 ^ j := Nat.two_pow_pos j
    omega
  rw [Nat.testBit_and, Nat.testBit_two_pow_sub_succ hlt, Nat.testBit_two_pow_sub_one, Nat.testBit_two_pow_mul, Nat.testBit_div_two_pow]
  by_cases h : j ≤ i
  · have e : j + (i - j) = i := by omega
    rw [show i - j + j = i by omega]
    by_cases h64 : i < 64
    · simp [h, h64]
    · have : a.testBit i = false := Nat.testBit_lt_two_pow (Nat.lt_of_lt_of_le ha (Nat.pow_le_pow_right (by omega) (by omega)))
      simp [this]
  · simp [h]; omega

theorem mixN (j a s : Nat) (hj : j ≤ 64) (ha : a < 2 ^ 64) : (a &&& (2 ^ 64 - ((2 ^ j - 1) + 1))) ||| (s &&& (2 ^ j - 1)) = 2 ^ j * (a / 2 ^ j) + s % 2 ^ j := by
  rw [hi_bits j a hj ha, Nat.and_two_pow_sub_one_eq_mod, Nat.two_pow_add_eq_or_of_lt (Nat.mod_lt _ (Nat.two_pow_pos j))]

theorem mix (j : Nat) (m : Nat) (hm : m = 2 ^ j - 1) (hj : j ≤ 32) (a s : Int) (ha : 0 ≤ a) (ha' : a < 18446744073709551616) (hs : 0 ≤ s) (hs' : s < 18446744073709551616) :
    bits .or .u64 (bits .andNot .u64 a (m : Int)) (bits .and .u64 s (m : Int)) = (((2 ^ j * (a.toNat / 2 ^ j) + s.toNat % 2 ^ j : Nat)) : Int) := by
  obtain ⟨a, rfl⟩ := Int.eq_ofNat_of_zero_le ha
  obtain ⟨s, rfl⟩ := Int.eq_ofNat_of_zero_le hs
  have hp : 2 ^ j ≤ 2 ^ 32 := Nat.pow_le_pow_right (by omega) hj
  have hp0 : 0 < 2 ^ j := Nat.two_pow_pos j
  have h1 := mixN j a s (by omega) (by omega)
  subst hm
  rw [u64_andNot_nat _ _ (by omega) (by omega), u64_and_nat _ _ (by omega) (by omega)]
  have b1 : a &&& (18446744073709551615 - (2 ^ j - 1)) ≤ a := Nat.and_le_left
  have b2 : s &&& (2 ^ j - 1) ≤ s := Nat.and_le_left
  rw [u64_or_nat _ _ (by omega) (by omega)]
  rw [show 2 ^ 64 - (2 ^ j - 1 + 1) = 18446744073709551615 - (2 ^ j - 1) by omega] at h1
  rw [h1]
  rfl

theorem mix8 (a s : Int) (ha : 0 ≤ a) (ha' : a < 18446744073709551616) (hs : 0 ≤ s) (hs' : s < 18446744073709551616) :
    bits .or .u64 (bits .andNot .u64 a 255) (bits .and .u64 s 255) = a - a % 256 + s % 256 := by
  have h := mix 8 255 rfl (by omega) a s ha ha' hs hs'
  simp at h; rw [h]; omega
theorem mix16 (a s : Int) (ha : 0 ≤ a) (ha' : a < 18446744073709551616) (hs : 0 ≤ s) (hs' : s < 18446744073709551616) :
    bits .or .u64 (bits .andNot .u64 a 65535) (bits .and .u64 s 65535) = a - a % 65536 + s % 65536 := by
  have h := mix 16 65535 rfl (by omega) a s ha ha' hs hs'
  simp at h; rw [h]; omega
theorem mix24 (a s : Int) (ha : 0 ≤ a) (ha' : a < 18446744073709551616) (hs : 0 ≤ s) (hs' : s < 18446744073709551616) :
    bits .or .u64 (bits .andNot .u64 a 16777215) (bits .and .u64 s 16777215) = a - a % 16777216 + s % 16777216 := by
  have h := mix 24 16777215 rfl (by omega) a s ha ha' hs hs'
  simp at h; rw [h]; omega
theorem mix32 (a s : Int) (ha : 0 ≤ a) (ha' : a < 18446744073709551616) (hs : 0 ≤ s) (hs' : s < 18446744073709551616) :
    bits .or .u64 (bits .andNot .u64 a 4294967295) (bits .and .u64 s 4294967295) = a - a % 4294967296 + s % 4294967296 := by
  have h := mix 32 4294967295 rfl (by omega) a s ha ha' hs hs'
  simp at h; rw [h]; omega

theorem andm (j : Nat) (m : Nat) (hm : m = 2 ^ j - 1) (hj : j ≤ 32) (s : Int) (hs : 0 ≤ s) (hs' : s < 18446744073709551616) :
    bits .and .u64 s (m : Int) = s % (2 ^ j : Nat) := by
  obtain ⟨s, rfl⟩ := Int.eq_ofNat_of_zero_le hs
  have hp : 2 ^ j ≤ 2 ^ 32 := Nat.pow_le_pow_right (by omega) hj
  subst hm
  rw [u64_and_nat _ _ (by omega) (by omega), Nat.and_two_pow_sub_one_eq_mod]
  rfl

/-- Of a number, that number and a turn more, that number and a turn less: the one that stands next to x (h: half a turn). -/
def pickv (w h n x : Int) : Int :=
  if n + h ≤ x ∧ n < 4611686018427387904 - w then n + w else if n > x + h ∧ n ≥ w then n - w else n

/-- The number whose lowest part is s's, nearest to x: w is how many numbers the part tells apart. -/
def fullv (w s x : Int) : Int := pickv w (w / 2) (x - x % w + s % w) x

end Go.Proofs.Ytmccghadgihbpaa.HeadArith
