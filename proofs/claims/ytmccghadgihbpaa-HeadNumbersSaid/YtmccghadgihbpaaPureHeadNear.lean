/- What is sent of a number is read as that number again, wherever the awaited one stands between what was acknowledged and it, if they are less than 2^30 apart. -/
import Derived.Test.YtmccghadgihbpaaPHeadNearx1
import Derived.Test.YtmccghadgihbpaaHeadArith
namespace Go.Proofs.Ytmccghadgihbpaa.Pure
open Go.RowKit Go.Proofs.Ytmccghadgihbpaa.PHeadNear Go.Proofs.YtmccghadgihbpaaW.PrintWords Go.Proofs.YtmccghadgihbpaaW.PrintLast
open Go.Proofs.YtmccghadgihbpaaW.PrintMore Go.Proofs.Ytmccghadgihbpaa.HeadArith

theorem pick_val (w h n x : Int) (hw : 0 < w) (hw' : w ≤ 4294967296) (hh : 2 * h = w) (hn : 0 ≤ n) (hn' : n < 4611686018427387904) (hx : 0 ≤ x) (hx' : x < 4611686018427387904) :
    (if IntKind.u64.wrap (n + h) ≤ x then head_Full.j0 5 x w n (decide (n < IntKind.u64.wrap (4611686018427387904 - w))) else head_Full.j0 5 x w n false) = some (pickv w h n x) := by
  have e1 : IntKind.u64.wrap (n + h) = n + h := by rw [IntKind.wrap_u64]; omega
  have e2 : IntKind.u64.wrap (4611686018427387904 - w) = 4611686018427387904 - w := by rw [IntKind.wrap_u64]; omega
  have e3 : IntKind.u64.wrap (n + w) = n + w := by rw [IntKind.wrap_u64]; omega
  have e4 : n ≥ w → IntKind.u64.wrap (n - w) = n - w := by intro h; rw [IntKind.wrap_u64]; omega
  have e5 : IntKind.u64.wrap (Int.tdiv w 2) = h := by rw [IntKind.wrap_u64, Int.tdiv_eq_ediv_of_nonneg (by omega)]; omega
  have e6 : IntKind.u64.wrap (x + h) = x + h := by rw [IntKind.wrap_u64]; omega
  simp only [head_Full.j0, e1, e2, e3, e5, e6]
  unfold pickv
  have rest : (if n > x + h then (if n ≥ w then some (IntKind.u64.wrap (n - w)) else some n) else some n) = some (if n > x + h ∧ n ≥ w then n - w else n) := by
    by_cases c1 : n > x + h
    · rw [if_pos c1]
      by_cases c2 : n ≥ w
      · rw [if_pos c2, if_pos ⟨c1, c2⟩, e4 c2]
      · rw [if_neg c2, if_neg (fun c => c2 c.2)]
    · rw [if_neg c1, if_neg (fun c => c1 c.1)]
  by_cases c1 : n + h ≤ x
  · rw [if_pos c1]
    by_cases c2 : n < 4611686018427387904 - w
    · rw [if_pos (decide_eq_true c2), if_pos ⟨c1, c2⟩]
    · have k : (if n + h ≤ x ∧ n < 4611686018427387904 - w then n + w else if n > x + h ∧ n ≥ w then n - w else n) = (if n > x + h ∧ n ≥ w then n - w else n) := if_neg (fun c => c2 c.2)
      rw [k, ← rest, if_neg (by simp [c2])]
  · have k : (if n + h ≤ x ∧ n < 4611686018427387904 - w then n + w else if n > x + h ∧ n ≥ w then n - w else n) = (if n > x + h ∧ n ≥ w then n - w else n) := if_neg (fun c => c1 c.1)
    rw [k, ← rest, if_neg c1, if_neg (by simp)]

/-- The full number, as a plain function: w is how many numbers the sent bytes tell apart. -/
theorem full_val (s b x : Int) (hs : 0 ≤ s) (hs' : s < 18446744073709551616) (hx : 0 ≤ x) (hx' : x < 4611686018427387904) :
    ((mn (mx b 1) 4 = 1) → head_Full.f 5 s b x = some (fullv 256 s x)) ∧ ((mn (mx b 1) 4 = 2) → head_Full.f 5 s b x = some (fullv 65536 s x)) ∧
    ((mn (mx b 1) 4 = 3) → head_Full.f 5 s b x = some (fullv 16777216 s x)) ∧ ((mn (mx b 1) 4 = 4) → head_Full.f 5 s b x = some (fullv 4294967296 s x)) := by
  unfold head_Full.f fullv
  have t1 := mix8 x s hx (by omega) hs hs'
  have t2 := mix16 x s hx (by omega) hs hs'
  have t3 := mix24 x s hx (by omega) hs hs'
  have t4 := mix32 x s hx (by omega) hs hs'
  have c1 : IntKind.u64.wrap (2 ^ (8 * (1 : Int)).toNat) = 256 := by decide +kernel
  have c2 : IntKind.u64.wrap (2 ^ (8 * (2 : Int)).toNat) = 65536 := by decide +kernel
  have c3 : IntKind.u64.wrap (2 ^ (8 * (3 : Int)).toNat) = 16777216 := by decide +kernel
  have c4 : IntKind.u64.wrap (2 ^ (8 * (4 : Int)).toNat) = 4294967296 := by decide +kernel
  have d1 : IntKind.u64.wrap (256 - 1) = 255 := by decide +kernel
  have d2 : IntKind.u64.wrap (65536 - 1) = 65535 := by decide +kernel
  have d3 : IntKind.u64.wrap (16777216 - 1) = 16777215 := by decide +kernel
  have d4 : IntKind.u64.wrap (4294967296 - 1) = 4294967295 := by decide +kernel
  have q1 : IntKind.u64.wrap (Int.tdiv 256 2) = 128 := by decide +kernel
  have q2 : IntKind.u64.wrap (Int.tdiv 65536 2) = 32768 := by decide +kernel
  have q3 : IntKind.u64.wrap (Int.tdiv 16777216 2) = 8388608 := by decide +kernel
  have q4 : IntKind.u64.wrap (Int.tdiv 4294967296 2) = 2147483648 := by decide +kernel
  refine ⟨fun e => ?_, fun e => ?_, fun e => ?_, fun e => ?_⟩ <;> simp only [e]
  · simp only [c1, d1, t1, q1]
    exact pick_val 256 128 _ x (by omega) (by omega) (by omega) (by omega) (by omega) hx hx'
  · simp only [c2, d2, t2, q2]
    exact pick_val 65536 32768 _ x (by omega) (by omega) (by omega) (by omega) (by omega) hx hx'
  · simp only [c3, d3, t3, q3]
    exact pick_val 16777216 8388608 _ x (by omega) (by omega) (by omega) (by omega) (by omega) hx hx'
  · simp only [c4, d4, t4, q4]
    exact pick_val 4294967296 2147483648 _ x (by omega) (by omega) (by omega) (by omega) (by omega) hx hx'

/-- How many bytes are sent, when d numbers are not acknowledged. -/
theorem short_val (p a : Int) (ha : 0 ≤ a) (hp : p < 4611686018427387904) (hap : a ≤ p) :
    head_Short.f 5 p a = some (if p - a < 128 then 1 else if p - a < 32768 then 2 else if p - a < 8388608 then 3 else 4) := by
  unfold head_Short.f
  have e : IntKind.u64.wrap (p - a) = p - a := by rw [IntKind.wrap_u64]; omega
  have w1 : shl .u64 1 (wrap64 (8 * 1)) = 256 := by decide +kernel
  have w2 : shl .u64 1 (wrap64 (8 * 2)) = 65536 := by decide +kernel
  have w3 : shl .u64 1 (wrap64 (8 * 3)) = 16777216 := by decide +kernel
  have z1 : 0 ≤ wrap64 (8 * 1) := by decide +kernel
  have z2 : 0 ≤ wrap64 (8 * 2) := by decide +kernel
  have z3 : 0 ≤ wrap64 (8 * 3) := by decide +kernel
  have s1 : wrap64 (1 + 1) = 2 := by decide +kernel
  have s2 : wrap64 (2 + 1) = 3 := by decide +kernel
  have s3 : wrap64 (3 + 1) = 4 := by decide +kernel
  simp only [head_Short.l0, e, s1, s2, s3, w1, w2, w3, z1, z2, z3, if_true]
  have e2 : IntKind.u64.wrap (IntKind.u64.wrap ((p - a) * 2) + 1) = 2 * (p - a) + 1 := by simp only [IntKind.wrap_u64]; omega
  rw [e2]
  by_cases h1 : p - a < 128
  · rw [if_pos (by omega), if_neg (by omega), if_pos h1]
  · rw [if_pos (by omega), if_pos (by omega), if_neg h1, if_pos (by omega)]
    by_cases h2 : p - a < 32768
    · rw [if_neg (by omega), if_pos h2]
    · rw [if_pos (by omega), if_neg h2, if_pos (by omega)]
      by_cases h3 : p - a < 8388608
      · rw [if_neg (by omega), if_pos h3]
      · rw [if_pos (by omega), if_neg h3, if_neg (by omega)]

theorem near_back (w p x : Int) (hw : w = 256 ∨ w = 65536 ∨ w = 16777216 ∨ w = 4294967296) (hx : 0 ≤ x) (hxp : x ≤ p) (hp : p < 4611686018427387904) (hd : 2 * (p - x) < w) :
    fullv w (p % w) x = p := by
  rcases hw with rfl | rfl | rfl | rfl <;> (unfold fullv pickv; (repeat' split) <;> omega)

theorem HeadNear : skifflaw12_HeadNear.Pure := by
  intro p b t hp hb ht
  have hp : 0 ≤ p ∧ p < 18446744073709551616 := by simp [Lit.wf, IntKind.min, IntKind.max, IntKind.bits, IntKind.signed] at hp; omega
  have hb : 0 ≤ b ∧ b < 4294967296 := by simp [Lit.wf, IntKind.min, IntKind.max, IntKind.bits, IntKind.signed] at hb; omega
  have ht : 0 ≤ t ∧ t < 4294967296 := by simp [Lit.wf, IntKind.min, IntKind.max, IntKind.bits, IntKind.signed] at ht; omega
  refine ⟨5, ?_⟩
  unfold skifflaw12_HeadNear.f
  have hA : skifflaw12_Awake.f 5 = some true := by decide +kernel
  rw [hA]
  simp only [Option.bind_some, if_true]
  have eb : IntKind.u64.wrap b = b := by rw [IntKind.wrap_u64]; omega
  have et : IntKind.u64.wrap t = t := by rw [IntKind.wrap_u64]; omega
  rw [eb, et, Int.tmod_eq_emod_of_nonneg hp.1, Int.tmod_eq_emod_of_nonneg hb.1, Int.tmod_eq_emod_of_nonneg ht.1]
  have hq : 0 ≤ p % 4611686018427387904 ∧ p % 4611686018427387904 < 4611686018427387904 := by omega
  generalize p % 4611686018427387904 = q at *
  have hd : 0 ≤ mn (b % 1073741824) q ∧ mn (b % 1073741824) q < 1073741824 ∧ mn (b % 1073741824) q ≤ q := by unfold mn; split <;> omega
  generalize mn (b % 1073741824) q = d at *
  have e1 : IntKind.u64.wrap (d + 1) = d + 1 := by rw [IntKind.wrap_u64]; omega
  have e2 : IntKind.u64.wrap (q - d) = q - d := by rw [IntKind.wrap_u64]; omega
  rw [e1, e2, if_neg (by omega)]
  have g0 : 0 ≤ t % (d + 1) := Int.emod_nonneg _ (by omega)
  have g1 : t % (d + 1) < d + 1 := Int.emod_lt_of_pos _ (by omega)
  generalize t % (d + 1) = c at *
  have e3 : IntKind.u64.wrap (q - d + c) = q - d + c := by rw [IntKind.wrap_u64]; omega
  rw [e3, short_val q (q - d) (by omega) hq.2 (by omega)]
  simp only [Option.bind_some]
  rw [show q - (q - d) = d by omega]
  have w1 : IntKind.u64.wrap (shl .u64 1 (wrap64 (8 * 1)) - 1) = 255 := by decide +kernel
  have w2 : IntKind.u64.wrap (shl .u64 1 (wrap64 (8 * 2)) - 1) = 65535 := by decide +kernel
  have w3 : IntKind.u64.wrap (shl .u64 1 (wrap64 (8 * 3)) - 1) = 16777215 := by decide +kernel
  have w4 : IntKind.u64.wrap (shl .u64 1 (wrap64 (8 * 4)) - 1) = 4294967295 := by decide +kernel
  have a1 : Go.bits .and .u64 q 255 = q % 256 := andm 8 255 rfl (by omega) q hq.1 (by omega)
  have a2 : Go.bits .and .u64 q 65535 = q % 65536 := andm 16 65535 rfl (by omega) q hq.1 (by omega)
  have a3 : Go.bits .and .u64 q 16777215 = q % 16777216 := andm 24 16777215 rfl (by omega) q hq.1 (by omega)
  have a4 : Go.bits .and .u64 q 4294967295 = q % 4294967296 := andm 32 4294967295 rfl (by omega) q hq.1 (by omega)
  by_cases h1 : d < 128
  · have n1 := near_back 256 q (q - d + c) (by omega) (by omega) (by omega) hq.2 (by omega)
    have f1 := (full_val (q % 256) 1 (q - d + c) (by omega) (by omega) (by omega) (by omega)).1 (by decide +kernel)
    rw [if_pos h1, if_pos (by omega), if_pos (by omega), if_pos (by decide +kernel), w1, a1, f1, n1]; simp
  · rw [if_neg h1]
    by_cases h2 : d < 32768
    · have n1 := near_back 65536 q (q - d + c) (by omega) (by omega) (by omega) hq.2 (by omega)
      have f1 := (full_val (q % 65536) 2 (q - d + c) (by omega) (by omega) (by omega) (by omega)).2.1 (by decide +kernel)
      rw [if_pos h2, if_pos (by omega), if_pos (by omega), if_pos (by decide +kernel), w2, a2, f1, n1]; simp
    · rw [if_neg h2]
      by_cases h3 : d < 8388608
      · have n1 := near_back 16777216 q (q - d + c) (by omega) (by omega) (by omega) hq.2 (by omega)
        have f1 := (full_val (q % 16777216) 3 (q - d + c) (by omega) (by omega) (by omega) (by omega)).2.2.1 (by decide +kernel)
        rw [if_pos h3, if_pos (by omega), if_pos (by omega), if_pos (by decide +kernel), w3, a3, f1, n1]; simp
      · have n1 := near_back 4294967296 q (q - d + c) (by omega) (by omega) (by omega) hq.2 (by omega)
        have f1 := (full_val (q % 4294967296) 4 (q - d + c) (by omega) (by omega) (by omega) (by omega)).2.2.2 (by decide +kernel)
        rw [if_neg h3, if_pos (by omega), if_pos (by omega), if_pos (by decide +kernel), w4, a4, f1, n1]; simp

end Go.Proofs.Ytmccghadgihbpaa.Pure
