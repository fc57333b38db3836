/- The full number has the lowest bytes that were sent, and is no further from the awaited one than one turn of them, for every pair of numbers and one to four bytes. -/
import Derived.Test.YtmccghadgihbpaaPHeadFullx1
import Derived.Test.YtmccghadgihbpaaHeadArith
namespace Go.Proofs.Ytmccghadgihbpaa.Pure
open Go.RowKit Go.Proofs.Ytmccghadgihbpaa.PHeadFull Go.Proofs.YtmccghadgihbpaaW.PrintWords Go.Proofs.YtmccghadgihbpaaW.PrintLast
open Go.Proofs.YtmccghadgihbpaaW.PrintMore Go.Proofs.Ytmccghadgihbpaa.HeadArith

theorem pick_val (w h n x : Int) (hw : 0 < w) (hw' : w ≤ 4294967296) (hh : 2 * h = w) (hn : 0 ≤ n) (hn' : n < 4611686018427387904) (hx : 0 ≤ x) (hx' : x < 4611686018427387904) :
    (if IntKind.u64.wrap (n + h) ≤ x then head_Full.j0 5 x w n (decide (n < IntKind.u64.wrap (4611686018427387904 - w))) else head_Full.j0 5 x w n false) = some (pickv w h n x) := by
  have e1 : IntKind.u64.wrap (n + h) = n + h := by rw [IntKind.wrap_u64]; omega
  have e2 : IntKind.u64.wrap (4611686018427387904 - w) = 4611686018427387904 - w := by rw [IntKind.wrap_u64]; omega
  have e3 : IntKind.u64.wrap (n + w) = n + w := by rw [IntKind.wrap_u64]; omega
  have e4 : n ≥ w → IntKind.u64.wrap (n - w) = n - w := by intro h; rw [IntKind.wrap_u64]; omega
  have e5 : IntKind.u64.wrap (Int.tdiv w 2) = h := by rw [IntKind.wrap_u64, Int.tdiv_eq_ediv_of_nonneg (by omega)]; omega
  have e6 : IntKind.u64.wrap (x + h) = x + h := by rw [IntKind.wrap_u64]; omega
  simp only [head_Full.j0, e1, e2, e3, e5, e6]
  unfold pickv
  have rest : (if n > x + h then (if n ≥ w then some (IntKind.u64.wrap (n - w)) else some n) else some n) = some (if n > x + h ∧ n ≥ w then n - w else n) := by
    by_cases c1 : n > x + h
    · rw [if_pos c1]
      by_cases c2 : n ≥ w
      · rw [if_pos c2, if_pos ⟨c1, c2⟩, e4 c2]
      · rw [if_neg c2, if_neg (fun c => c2 c.2)]
    · rw [if_neg c1, if_neg (fun c => c1 c.1)]
  by_cases c1 : n + h ≤ x
  · rw [if_pos c1]
    by_cases c2 : n < 4611686018427387904 - w
    · rw [if_pos (decide_eq_true c2), if_pos ⟨c1, c2⟩]
    · have k : (if n + h ≤ x ∧ n < 4611686018427387904 - w then n + w else if n > x + h ∧ n ≥ w then n - w else n) = (if n > x + h ∧ n ≥ w then n - w else n) := if_neg (fun c => c2 c.2)
      rw [k, ← rest, if_neg (by simp [c2])]
  · have k : (if n + h ≤ x ∧ n < 4611686018427387904 - w then n + w else if n > x + h ∧ n ≥ w then n - w else n) = (if n > x + h ∧ n ≥ w then n - w else n) := if_neg (fun c => c1 c.1)
    rw [k, ← rest, if_neg c1, if_neg (by simp)]

/-- The full number, as a plain function: w is how many numbers the sent bytes tell apart. -/
theorem full_val (s b x : Int) (hs : 0 ≤ s) (hs' : s < 18446744073709551616) (hx : 0 ≤ x) (hx' : x < 4611686018427387904) :
    ((mn (mx b 1) 4 = 1) → head_Full.f 5 s b x = some (fullv 256 s x)) ∧ ((mn (mx b 1) 4 = 2) → head_Full.f 5 s b x = some (fullv 65536 s x)) ∧
    ((mn (mx b 1) 4 = 3) → head_Full.f 5 s b x = some (fullv 16777216 s x)) ∧ ((mn (mx b 1) 4 = 4) → head_Full.f 5 s b x = some (fullv 4294967296 s x)) := by
  unfold head_Full.f fullv
  have t1 := mix8 x s hx (by omega) hs hs'
  have t2 := mix16 x s hx (by omega) hs hs'
  have t3 := mix24 x s hx (by omega) hs hs'
  have t4 := mix32 x s hx (by omega) hs hs'
  have c1 : IntKind.u64.wrap (2 ^ (8 * (1 : Int)).toNat) = 256 := by decide +kernel
  have c2 : IntKind.u64.wrap (2 ^ (8 * (2 : Int)).toNat) = 65536 := by decide +kernel
  have c3 : IntKind.u64.wrap (2 ^ (8 * (3 : Int)).toNat) = 16777216 := by decide +kernel
  have c4 : IntKind.u64.wrap (2 ^ (8 * (4 : Int)).toNat) = 4294967296 := by decide +kernel
  have d1 : IntKind.u64.wrap (256 - 1) = 255 := by decide +kernel
  have d2 : IntKind.u64.wrap (65536 - 1) = 65535 := by decide +kernel
  have d3 : IntKind.u64.wrap (16777216 - 1) = 16777215 := by decide +kernel
  have d4 : IntKind.u64.wrap (4294967296 - 1) = 4294967295 := by decide +kernel
  have q1 : IntKind.u64.wrap (Int.tdiv 256 2) = 128 := by decide +kernel
  have q2 : IntKind.u64.wrap (Int.tdiv 65536 2) = 32768 := by decide +kernel
  have q3 : IntKind.u64.wrap (Int.tdiv 16777216 2) = 8388608 := by decide +kernel
  have q4 : IntKind.u64.wrap (Int.tdiv 4294967296 2) = 2147483648 := by decide +kernel
  refine ⟨fun e => ?_, fun e => ?_, fun e => ?_, fun e => ?_⟩ <;> simp only [e]
  · simp only [c1, d1, t1, q1]
    exact pick_val 256 128 _ x (by omega) (by omega) (by omega) (by omega) (by omega) hx hx'
  · simp only [c2, d2, t2, q2]
    exact pick_val 65536 32768 _ x (by omega) (by omega) (by omega) (by omega) (by omega) hx hx'
  · simp only [c3, d3, t3, q3]
    exact pick_val 16777216 8388608 _ x (by omega) (by omega) (by omega) (by omega) (by omega) hx hx'
  · simp only [c4, d4, t4, q4]
    exact pick_val 4294967296 2147483648 _ x (by omega) (by omega) (by omega) (by omega) (by omega) hx hx'

theorem near_any (w s x : Int) (hw : w = 256 ∨ w = 65536 ∨ w = 16777216 ∨ w = 4294967296) (_hs : 0 ≤ s) (hx : 0 ≤ x) (hx' : x < 4611686018427387904) :
    0 ≤ fullv w s x ∧ fullv w s x % w = s % w ∧ fullv w s x - x ≤ w ∧ x - fullv w s x ≤ w ∧ fullv w s x < 4611686018427387904 := by
  rcases hw with rfl | rfl | rfl | rfl <;> (unfold fullv pickv; (repeat' split) <;> omega)

theorem HeadFull : skifflaw12_HeadFull.Pure := by
  intro s x b hs hx hb
  have hs : 0 ≤ s ∧ s < 18446744073709551616 := by simp [Lit.wf, IntKind.min, IntKind.max, IntKind.bits, IntKind.signed] at hs; omega
  have hx : 0 ≤ x ∧ x < 18446744073709551616 := by simp [Lit.wf, IntKind.min, IntKind.max, IntKind.bits, IntKind.signed] at hx; omega
  have hb : 0 ≤ b ∧ b < 256 := by simp [Lit.wf, IntKind.min, IntKind.max, IntKind.bits, IntKind.signed] at hb; omega
  refine ⟨5, ?_⟩
  unfold skifflaw12_HeadFull.f
  have hA : skifflaw12_Awake.f 5 = some true := by decide +kernel
  rw [hA]
  simp only [Option.bind_some, if_true]
  rw [Int.tmod_eq_emod_of_nonneg hx.1, Int.tmod_eq_emod_of_nonneg hb.1]
  have hy : 0 ≤ x % 4611686018427387904 ∧ x % 4611686018427387904 < 4611686018427387904 := by omega
  generalize x % 4611686018427387904 = y at *
  obtain ⟨n, hn⟩ : ∃ n, n = wrap64 (1 + wrap64 (b % 4)) := ⟨_, rfl⟩
  have hn2 : n = 1 + b % 4 := by rw [hn]; unfold wrap64; omega
  rw [← hn]
  clear hn
  have hb4 : n = 1 ∨ n = 2 ∨ n = 3 ∨ n = 4 := by omega
  clear hn2
  obtain ⟨f1, f2, f3, f4⟩ := full_val s n y hs.1 hs.2 hy.1 hy.2
  have tmo : ∀ (c d : Int), 0 ≤ c → Int.tmod c d = c % d := fun c d h => Int.tmod_eq_emod_of_nonneg h
  have w1 : shl .u64 1 (wrap64 (8 * 1)) = 256 := by decide +kernel
  have w2 : shl .u64 1 (wrap64 (8 * 2)) = 65536 := by decide +kernel
  have w3 : shl .u64 1 (wrap64 (8 * 3)) = 16777216 := by decide +kernel
  have w4 : shl .u64 1 (wrap64 (8 * 4)) = 4294967296 := by decide +kernel
  rcases hb4 with rfl | rfl | rfl | rfl
  · have n1 := near_any 256 s y (by omega) hs.1 hy.1 hy.2
    rw [f1 (by decide +kernel), if_pos (by decide +kernel)]
    simp only [Option.bind_some, w1, if_neg (show ¬ (256 : Int) = 0 by omega)]
    generalize fullv 256 s y = v at *
    rw [tmo v _ n1.1, tmo s _ hs.1, if_pos n1.2.1, if_pos (by simp only [IntKind.wrap_u64, mx, mn]; repeat' split <;> omega), decide_eq_true n1.2.2.2.2]
  · have n1 := near_any 65536 s y (by omega) hs.1 hy.1 hy.2
    rw [f2 (by decide +kernel), if_pos (by decide +kernel)]
    simp only [Option.bind_some, w2, if_neg (show ¬ (65536 : Int) = 0 by omega)]
    generalize fullv 65536 s y = v at *
    rw [tmo v _ n1.1, tmo s _ hs.1, if_pos n1.2.1, if_pos (by simp only [IntKind.wrap_u64, mx, mn]; repeat' split <;> omega), decide_eq_true n1.2.2.2.2]
  · have n1 := near_any 16777216 s y (by omega) hs.1 hy.1 hy.2
    rw [f3 (by decide +kernel), if_pos (by decide +kernel)]
    simp only [Option.bind_some, w3, if_neg (show ¬ (16777216 : Int) = 0 by omega)]
    generalize fullv 16777216 s y = v at *
    rw [tmo v _ n1.1, tmo s _ hs.1, if_pos n1.2.1, if_pos (by simp only [IntKind.wrap_u64, mx, mn]; repeat' split <;> omega), decide_eq_true n1.2.2.2.2]
  · have n1 := near_any 4294967296 s y (by omega) hs.1 hy.1 hy.2
    rw [f4 (by decide +kernel), if_pos (by decide +kernel)]
    simp only [Option.bind_some, w4, if_neg (show ¬ (4294967296 : Int) = 0 by omega)]
    generalize fullv 4294967296 s y = v at *
    rw [tmo v _ n1.1, tmo s _ hs.1, if_pos n1.2.1, if_pos (by simp only [IntKind.wrap_u64, mx, mn]; repeat' split <;> omega), decide_eq_true n1.2.2.2.2]

end Go.Proofs.Ytmccghadgihbpaa.Pure
