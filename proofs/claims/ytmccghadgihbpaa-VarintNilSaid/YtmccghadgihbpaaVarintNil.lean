/- A nil reader does nothing: the walk of the law VarintNil. -/
import Derived.Test.YtmccghadgihbpaaAwake10

namespace Go.Proofs.Ytmccghadgihbpaa.VarintNilWalk
open Go Go.RowKit Go.Proofs.YtmccghadgihbpaaW.PrintWords Go.Proofs.YtmccghadgihbpaaW.PrintLast Go.Proofs.YtmccghadgihbpaaW.PrintMore Go.Proofs.Ytmccghadgihbpaa.Keep Go.Proofs.Ytmccghadgihbpaa.Mem
set_option linter.unusedVariables false

theorem nil_fail (c : Int) (w : World) : Calls Try.prog 33 #[.pointer none, .int .i64 c] w fun e w' => e = .returned (.tuple #[]) ∧ w = w' := by
  go_enter Try.func33, Try.ntmps33
  go_wp2
  go_end0
  exact ⟨rfl, rfl⟩
theorem nil_code (w : World) : Calls Try.prog 31 #[.pointer none] w fun e w' => e = .returned (.int .i64 1) ∧ w = w' := by
  go_enter Try.func31, Try.ntmps31
  go_wp2
  go_ret
  exact ⟨rfl, rfl⟩
theorem nil_left (w : World) : Calls Try.prog 30 #[.pointer none] w fun e w' => e = .returned (.int .i64 0) ∧ w = w' := by
  go_enter Try.func30, Try.ntmps30
  go_wp2
  go_ret
  exact ⟨rfl, rfl⟩
theorem nil_bytes (n : Int) (w : World) : Calls Try.prog 34 #[.pointer none, .int .u64 n] w fun e w' => e = .returned (.slice none 0 0) ∧ w = w' := by
  go_enter Try.func34, Try.ntmps34
  go_wp2
  go_ret
  exact ⟨rfl, rfl⟩
theorem nil_byte (w : World) : Calls Try.prog 35 #[.pointer none] w fun e w' => e = .returned (.int .u8 0) ∧ w = w' := by
  go_enter Try.func35, Try.ntmps35
  go_wp2_with (go_at_call 34; refine (nil_bytes _ _).mono ?_; rintro e w1 ⟨rfl, rfl⟩)
  go_ret
  exact ⟨rfl, rfl⟩
theorem nil_num (w : World) : Calls Try.prog 29 #[.pointer none] w fun e w' => e = .returned (.int .u64 0) ∧ w = w' := by
  go_enter Try.func29, Try.ntmps29
  go_wp2_with (first | (go_at_call 30; refine (nil_left _).mono ?_; rintro e w1 ⟨rfl, rfl⟩) | (go_at_call 33; refine (nil_fail _ _).mono ?_; rintro e w1 ⟨rfl, rfl⟩))
  go_ret
  exact ⟨rfl, rfl⟩
theorem nil_end (w : World) : Calls Try.prog 32 #[.pointer none] w fun e w' => e = .returned (.int .i64 1) ∧ w = w' := by
  go_enter Try.func32, Try.ntmps32
  go_wp2_with (first | (go_at_call 30; refine (nil_left _).mono ?_; rintro e w1 ⟨rfl, rfl⟩) | (go_at_call 31; refine (nil_code _).mono ?_; rintro e w1 ⟨rfl, rfl⟩))
  go_ret
  exact ⟨rfl, rfl⟩

theorem law (n c : Int) (w : World) : Calls Try.prog 10 #[.int .u64 n, .int .i64 c] w fun e w' => e = .returned (.bool true) ∧ Below w.heap.size w w' := by
  go_enter Try.func10, Try.ntmps10
  go_wp2_with fail
  refine (Awake10.awake _).mono ?_
  rintro e w1 ⟨rfl, B1⟩
  go_wp2_with (first
    | (go_at_call 33; refine (nil_fail _ _).mono ?_; rintro e w1 ⟨rfl, rfl⟩)
    | (go_at_call 31; refine (nil_code _).mono ?_; rintro e w1 ⟨rfl, rfl⟩)
    | (go_at_call 30; refine (nil_left _).mono ?_; rintro e w1 ⟨rfl, rfl⟩)
    | (go_at_call 34; refine (nil_bytes _ _).mono ?_; rintro e w1 ⟨rfl, rfl⟩)
    | (go_at_call 35; refine (nil_byte _).mono ?_; rintro e w1 ⟨rfl, rfl⟩)
    | (go_at_call 29; refine (nil_num _).mono ?_; rintro e w1 ⟨rfl, rfl⟩)
    | (go_at_call 32; refine (nil_end _).mono ?_; rintro e w1 ⟨rfl, rfl⟩))
  go_ret
  exact ⟨rfl, B1⟩

end Go.Proofs.Ytmccghadgihbpaa.VarintNilWalk
