/- The fixed facts ahead of the statements of chapter 10 hold. -/
import Derived.Test.YtmccghadgihbpaaReader
import Derived.Test.YtmccghadgihbpaaVPut
namespace Go.Proofs.Ytmccghadgihbpaa.Awake10
open Go Go.RowKit Go.Proofs.YtmccghadgihbpaaW.PrintWords Go.Proofs.YtmccghadgihbpaaW.PrintLast Go.Proofs.YtmccghadgihbpaaW.PrintMore Go.Proofs.Ytmccghadgihbpaa.Keep Go.Proofs.Ytmccghadgihbpaa.Mem Go.Proofs.Ytmccghadgihbpaa.Reader Go.Proofs.Ytmccghadgihbpaa.VPut
set_option linter.unusedVariables false

theorem awake (w : World) : Calls Try.prog 25 #[] w fun e w' => e = .returned (.bool true) ∧ Below w.heap.size w w' := by
  go_enter Try.func25, Try.ntmps25
  go_wp2_with fail
  have hv : vputR [] [37, 15293] = ([37, 123, 189], 0) := by decide
  have P := put_calls (w := w.alloc (.cells #[.int .u64 37, .int .u64 15293] 22)) (A0 := none) (c0 := 0) (b := []) (A1 := some ⟨w.heap.size, 0, none⟩) (c1 := 2) (l := [37, 15293]) (Kd.C_nil _ _) (Nat.le_refl _) (C_lit .u64 w 22 [37, 15293] (by decide)) (by decide) (by decide) (by decide)
  rw [hv] at P
  clear hv
  refine P.mono ?_
  clear P
  rintro e w1 ⟨v, rfl, R1, B1⟩
  obtain ⟨A, c, rfl, hc, hC, hA⟩ := R1.read
  have hs : (convert 30 9 (.slice A 3 c)).run Try.prog w1 = .ok (.string (strOfNums [37, 123, 189])) w1 := Kd.C_string Try.underlying30 Try.underlying5 Try.underlying9 hC
  have est : (strOfNums [37, 123, 189]).toList = [37, 123, 189] := by rw [ByteArray.toList_eq]; rfl
  have HC := Lib.hid hC
  have HB := Lib.hid (((Below.refl w.heap.size w).alloc (Nat.le_refl _) _).trans (B1.mono (by simp)))

  clear R1 B1 hC hA
  go_wp2_with fail
  refine (new_calls (xs := [37, 123, 189]) HC.out hc (by decide) (by decide)).mono ?_
  rintro e w2 ⟨p, d, rfl, D2, B2, hp, hd⟩
  have N := num_calls D2 (by decide)
  rw [show rNum 0 [37, 123, 189] = (37, 0, [123, 189]) by decide] at N
  have HB2 := Lib.hid (HB.out.trans (B2.mono HB.out.size))
  clear B2 D2 est hs
  go_wp2_with fail
  refine N.mono ?_
  clear N
  rintro e w3 ⟨rfl, D3, K3⟩
  have HB3 := Lib.hid (K3.below HB2.out HB2.out.size (Nat.le_trans HB.out.size hp))
  clear D3 K3
  go_wp2_with fail
  go_ret
  exact ⟨rfl, HB3.out⟩

end Go.Proofs.Ytmccghadgihbpaa.Awake10
