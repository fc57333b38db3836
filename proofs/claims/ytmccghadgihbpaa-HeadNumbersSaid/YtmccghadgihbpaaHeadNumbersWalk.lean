/- How many bytes of a number are sent, and which number they are, is what the document says, for every pair of numbers and every count of bytes. -/
import Derived.Test.YtmccghadgihbpaaPHeadNearx1
import Derived.Test.YtmccghadgihbpaaHeadArith
import Derived.Test.YtmccghadgihbpaaPureHeadNear
import Derived.BigQuiet
import Derived.Deep.QuietTactic
import Derived.WalkLawsBesides
import Derived.Lib.Hide
namespace Go.Proofs.Ytmccghadgihbpaa.RefFull
open Go.RowKit Go.Proofs.YtmccghadgihbpaaW.PrintWords Go.Proofs.YtmccghadgihbpaaW.PrintLast
open Go.Proofs.YtmccghadgihbpaaW.PrintMore Go.Proofs.Ytmccghadgihbpaa.HeadArith
set_option linter.unusedVariables false

theorem full1 (s x : Int) (w : World) (hs : 0 ≤ s) (hs' : s < 18446744073709551616) (hx : 0 ≤ x) (hx' : x < 4611686018427387904) :
    Calls Try.prog 22 #[.int .u64 s, .int .i64 1, .int .u64 x] w fun e w' => e = .returned (.int .u64 (fullv 256 s x)) ∧ Drawn0 w w' := by
  go_enter Try.func22, Try.ntmps22
  go_wp2_with fail
  go_quiet (fail)
  go_wp2
  all_goals
    go_ret
    refine ⟨congrArg (fun r => Ending.returned (Value.int .u64 r)) ?_, ⟨_, rfl⟩⟩
    unfold fullv pickv
    (repeat' split) <;> omega

theorem full2 (s x : Int) (w : World) (hs : 0 ≤ s) (hs' : s < 18446744073709551616) (hx : 0 ≤ x) (hx' : x < 4611686018427387904) :
    Calls Try.prog 22 #[.int .u64 s, .int .i64 2, .int .u64 x] w fun e w' => e = .returned (.int .u64 (fullv 65536 s x)) ∧ Drawn0 w w' := by
  go_enter Try.func22, Try.ntmps22
  go_wp2_with fail
  go_quiet (fail)
  go_wp2
  all_goals
    go_ret
    refine ⟨congrArg (fun r => Ending.returned (Value.int .u64 r)) ?_, ⟨_, rfl⟩⟩
    unfold fullv pickv
    (repeat' split) <;> omega

theorem full3 (s x : Int) (w : World) (hs : 0 ≤ s) (hs' : s < 18446744073709551616) (hx : 0 ≤ x) (hx' : x < 4611686018427387904) :
    Calls Try.prog 22 #[.int .u64 s, .int .i64 3, .int .u64 x] w fun e w' => e = .returned (.int .u64 (fullv 16777216 s x)) ∧ Drawn0 w w' := by
  go_enter Try.func22, Try.ntmps22
  go_wp2_with fail
  go_quiet (fail)
  go_wp2
  all_goals
    go_ret
    refine ⟨congrArg (fun r => Ending.returned (Value.int .u64 r)) ?_, ⟨_, rfl⟩⟩
    unfold fullv pickv
    (repeat' split) <;> omega

theorem full4 (s x : Int) (w : World) (hs : 0 ≤ s) (hs' : s < 18446744073709551616) (hx : 0 ≤ x) (hx' : x < 4611686018427387904) :
    Calls Try.prog 22 #[.int .u64 s, .int .i64 4, .int .u64 x] w fun e w' => e = .returned (.int .u64 (fullv 4294967296 s x)) ∧ Drawn0 w w' := by
  go_enter Try.func22, Try.ntmps22
  go_wp2_with fail
  go_quiet (fail)
  go_wp2
  all_goals
    go_ret
    refine ⟨congrArg (fun r => Ending.returned (Value.int .u64 r)) ?_, ⟨_, rfl⟩⟩
    unfold fullv pickv
    (repeat' split) <;> omega

/-- How many numbers so many bytes tell apart: one byte at least, four at most. -/
def fw (n : Int) : Int := if n ≤ 1 then 256 else if n = 2 then 65536 else if n = 3 then 16777216 else 4294967296

theorem refFull (s n x : Int) (w : World) (hn : 1 ≤ n) (hn' : n ≤ 4) (hs : 0 ≤ s) (hs' : s < 18446744073709551616) (hx : 0 ≤ x) (hx' : x < 4611686018427387904) :
    Calls Try.prog 22 #[.int .u64 s, .int .i64 n, .int .u64 x] w fun e w' => e = .returned (.int .u64 (fullv (fw n) s x)) ∧ Drawn0 w w' := by
  rcases (by omega : n = 1 ∨ n = 2 ∨ n = 3 ∨ n = 4) with rfl | rfl | rfl | rfl
  · exact full1 s x w hs hs' hx hx'
  · exact full2 s x w hs hs' hx hx'
  · exact full3 s x w hs hs' hx hx'
  · exact full4 s x w hs hs' hx hx'

theorem ourFull (s b x : Int) (w : World) (hs : 0 ≤ s) (hs' : s < 18446744073709551616) (hx : 0 ≤ x) (hx' : x < 4611686018427387904) :
    Calls Try.prog 21 #[.int .u64 s, .int .i64 b, .int .u64 x] w fun e w' => e = .returned (.int .u64 (fullv (fw b) s x)) ∧ Below w.heap.size w w' := by
  obtain ⟨f1, f2, f3, f4⟩ := Pure.full_val s b x hs hs' hx hx'
  rcases (by omega : b ≤ 1 ∨ b = 2 ∨ b = 3 ∨ 4 ≤ b) with h | h | h | h
  · rw [show fw b = 256 by unfold fw; rw [if_pos h]]
    exact PHeadNear.head_Full.calls 5 s b x _ w (f1 (by unfold mn mx; (repeat' split) <;> omega))
  · rw [show fw b = 65536 by unfold fw; rw [if_neg (by omega), if_pos h]]
    exact PHeadNear.head_Full.calls 5 s b x _ w (f2 (by unfold mn mx; (repeat' split) <;> omega))
  · rw [show fw b = 16777216 by unfold fw; rw [if_neg (by omega), if_neg (by omega), if_pos h]]
    exact PHeadNear.head_Full.calls 5 s b x _ w (f3 (by unfold mn mx; (repeat' split) <;> omega))
  · rw [show fw b = 4294967296 by unfold fw; rw [if_neg (by omega), if_neg (by omega), if_neg (by omega)]]
    exact PHeadNear.head_Full.calls 5 s b x _ w (f4 (by unfold mn mx; (repeat' split) <;> omega))

/-- How many bytes are sent when d numbers are not acknowledged. -/
def sb (d : Int) : Int := if d < 128 then 1 else if d < 32768 then 2 else if d < 8388608 then 3 else 4

theorem refShort (p a : Int) (w : World) (ha : 0 ≤ a) (hp : p < 4611686018427387904) (hap : a ≤ p) :
    Calls Try.prog 20 #[.int .u64 p, .int .u64 a] w fun e w' => e = .returned (.int .i64 (sb (p - a))) ∧ Drawn0 w w' := by
  go_enter Try.func20, Try.ntmps20
  go_wp2
  all_goals
    go_ret
    refine ⟨congrArg (fun r => Ending.returned (Value.int .i64 r)) ?_, ⟨0, rfl⟩⟩
    unfold sb
    (repeat' split) <;> omega

theorem ourShort (p a : Int) (w : World) (ha : 0 ≤ a) (hp : p < 4611686018427387904) (hap : a ≤ p) :
    Calls Try.prog 19 #[.int .u64 p, .int .u64 a] w fun e w' => e = .returned (.int .i64 (sb (p - a))) ∧ Drawn0 w w' :=
  PHeadNear.head_Short.calls 5 p a _ w (Pure.short_val p a ha hp hap)

theorem awake (w : World) : Calls Try.prog 18 #[] w fun e w' => e = .returned (.bool true) ∧ Below w.heap.size w w' :=
  PHeadNear.skifflaw12_Awake.calls 5 true w (by decide +kernel)

theorem ends {w w1 w4 : World} {n2 n5 : Nat} (b1 : Below w.heap.size w w1) (b4 : Below (w1.drewN n2).heap.size (w1.drewN n2) w4) : Below w.heap.size w (w4.drewN n5) := by
  have d1 : Below w.heap.size w1 (w1.drewN n2) := (((Drawn0.refl w1).step n2).below).mono b1.size
  have d2 : Below w.heap.size w4 (w4.drewN n5) := (((Drawn0.refl w4).step n5).below).mono (Nat.le_trans (b1.trans d1).size b4.size)
  exact (b1.trans d1).trans ((b4.mono (b1.trans d1).size).trans d2)

theorem law (p a s x b : Int) (w : World) (hp : 0 ≤ p) (hp' : p < 18446744073709551616) (ha : 0 ≤ a) (ha' : a < 18446744073709551616)
    (hs : 0 ≤ s) (hs' : s < 18446744073709551616) (hx : 0 ≤ x) (hx' : x < 18446744073709551616) (hb : -9223372036854775808 ≤ b) (hb' : b < 9223372036854775808) :
    Calls Try.prog 3 #[.int .u64 p, .int .u64 a, .int .u64 s, .int .u64 x, .int .i64 b] w fun e w' => e = .returned (.bool true) ∧ Below w.heap.size w w' := by
  have g0 : 0 ≤ a % (p % 4611686018427387904 + 1) := Int.emod_nonneg _ (by omega)
  have g1 : a % (p % 4611686018427387904 + 1) < p % 4611686018427387904 + 1 := Int.emod_lt_of_pos _ (by omega)
  rcases (by omega : b < 1 ∨ (1 ≤ b ∧ b ≤ 4) ∨ 4 < b) with c1 | ⟨c1, c2⟩ | c1
  · have hfw := Lib.hid (show fw b = fw 1 by unfold fw; rw [if_pos (by omega), if_pos (by omega)])
    go_enter Try.func3, Try.ntmps3
    go_wp2_with fail
    refine (awake _).mono ?_
    rintro e w1 ⟨rfl, b1⟩
    go_wp2_with fail
    refine (ourShort _ _ _ g0 (by omega) (by omega)).mono ?_
    rintro e w2 ⟨rfl, ⟨n2, rfl⟩⟩
    go_wp2_with fail
    refine (refShort _ _ _ g0 (by omega) (by omega)).mono ?_
    rintro e w3 ⟨rfl, ⟨n3, rfl⟩⟩
    go_wp2_with fail
    refine (ourFull _ _ _ _ hs hs' (by omega) (by omega)).mono ?_
    rintro e w4 ⟨rfl, b4⟩
    go_wp2_with fail
    refine (refFull _ 1 _ _ (by omega) (by omega) hs hs' (by omega) (by omega)).mono ?_
    rintro e w5 ⟨rfl, ⟨n5, rfl⟩⟩
    go_wp2_with fail
    go_ret
    exact ⟨by rw [hfw.out]; simp, ends b1 b4⟩
  · go_enter Try.func3, Try.ntmps3
    go_wp2_with fail
    refine (awake _).mono ?_
    rintro e w1 ⟨rfl, b1⟩
    go_wp2_with fail
    refine (ourShort _ _ _ g0 (by omega) (by omega)).mono ?_
    rintro e w2 ⟨rfl, ⟨n2, rfl⟩⟩
    go_wp2_with fail
    refine (refShort _ _ _ g0 (by omega) (by omega)).mono ?_
    rintro e w3 ⟨rfl, ⟨n3, rfl⟩⟩
    go_wp2_with fail
    refine (ourFull _ _ _ _ hs hs' (by omega) (by omega)).mono ?_
    rintro e w4 ⟨rfl, b4⟩
    go_wp2_with fail
    refine (refFull _ b _ _ (by omega) (by omega) hs hs' (by omega) (by omega)).mono ?_
    rintro e w5 ⟨rfl, ⟨n5, rfl⟩⟩
    go_wp2_with fail
    go_ret
    exact ⟨by simp, ends b1 b4⟩
  · have hfw := Lib.hid (show fw b = fw 4 by unfold fw; rw [if_neg (by omega), if_neg (by omega), if_neg (by omega), if_neg (by omega), if_neg (by omega), if_neg (by omega)])
    go_enter Try.func3, Try.ntmps3
    go_wp2_with fail
    refine (awake _).mono ?_
    rintro e w1 ⟨rfl, b1⟩
    go_wp2_with fail
    refine (ourShort _ _ _ g0 (by omega) (by omega)).mono ?_
    rintro e w2 ⟨rfl, ⟨n2, rfl⟩⟩
    go_wp2_with fail
    refine (refShort _ _ _ g0 (by omega) (by omega)).mono ?_
    rintro e w3 ⟨rfl, ⟨n3, rfl⟩⟩
    go_wp2_with fail
    refine (ourFull _ _ _ _ hs hs' (by omega) (by omega)).mono ?_
    rintro e w4 ⟨rfl, b4⟩
    go_wp2_with fail
    refine (refFull _ 4 _ _ (by omega) (by omega) hs hs' (by omega) (by omega)).mono ?_
    rintro e w5 ⟨rfl, ⟨n5, rfl⟩⟩
    go_wp2_with fail
    go_ret
    exact ⟨by rw [hfw.out]; simp, ends b1 b4⟩

end Go.Proofs.Ytmccghadgihbpaa.RefFull
