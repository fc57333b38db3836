/- The closure of frame.Encode: numbers, then the frame's data. -/
import Derived.Test.YtmccghadgihbpaaVPut
import Derived.Test.YtmccghadgihbpaaTake
namespace Go.Proofs.Ytmccghadgihbpaa.With
open Go Go.RowKit Go.Proofs.YtmccghadgihbpaaW.PrintWords Go.Proofs.YtmccghadgihbpaaW.PrintLast Go.Proofs.YtmccghadgihbpaaW.PrintMore Go.Proofs.Ytmccghadgihbpaa.Keep Go.Proofs.Ytmccghadgihbpaa.Mem Go.Proofs.Ytmccghadgihbpaa.VPut
set_option linter.unusedVariables false

/-- Numbers, then bytes; an error's number. -/
def withR (data l : List Int) : List Int × Int := match vput [] l with | some o => (o ++ data, 0) | none => ([], 2)

theorem vput_len : ∀ {l out o : List Int}, vput out l = some o → o.length ≤ out.length + 8 * l.length
  | [], out, o, h => by
    unfold vput at h
    injection h with h
    subst h
    simp
  | n :: r, out, o, h => by
    unfold vput at h
    split at h
    · have := vput_len h
      have h8 := vbytes_length n
      rw [List.length_append] at this
      simp only [List.length_cons]
      omega
    · cases h

theorem with_calls {w : World} {fb : Nat} {v0 v1 v2 v3 v4 v5 v7 : Value} {A6 A1 : Option Addr} {c6 c1 : Nat} {data l : List Int} (hb : w.heap[fb]? = some (.cells #[v0, v1, v2, v3, v4, v5, .slice A6 data.length c6, v7] 58 (0, 0)))
    (hC6 : CB w A6 data) (hc6 : data.length ≤ c6) (hr1 : CU w A1 l) (hc1 : l.length ≤ c1) (hw : ∀ n ∈ l, 0 ≤ n ∧ n < 18446744073709551616) (hl : l.length ≤ 1000000) (hd : data.length ≤ 1000000) :
    Calls Try.prog 49 #[.slice A1 l.length c1, .pointer (some ⟨fb, 0, none⟩)] w fun e w' => ∃ v, e = .returned (.tuple #[v, .int .i64 (withR data l).2]) ∧ RB w' w.heap.size v (withR data l).1 ∧ Below w.heap.size w w' := by
  have P := put_calls (w := w) (A0 := none) (c0 := 0) (b := []) (Kd.C_nil _ _) (Nat.le_refl _) hr1 hc1 hw (by simp; omega)
  have HB := Lib.hid hb
  have HC6 := Lib.hid hC6
  have HP := Lib.hid P
  have hblt := blk_lt hb
  obtain ⟨o, ho⟩ : ∃ o, vput [] l = o := ⟨_, rfl⟩
  cases o with
  | none =>
    have e1 : vputR [] l = ([], 2) := by unfold vputR; rw [ho]
    have e2 : withR data l = ([], 2) := by unfold withR; rw [ho]
    rw [e1] at HP
    rw [e2]
    clear P hb hC6 hr1 hw ho e1 e2
    go_enter Try.func49, Try.ntmps49
    go_wp2_with fail
    refine HP.out.mono ?_
    clear HP
    rintro e w2 ⟨v, rfl, R2, B2⟩
    go_wp2_with fail
    go_ret2
    exact ⟨_, rfl, Kd.R_nil _ _ _ _ _, B2⟩
  | some o =>
    have e1 : vputR [] l = (o, 0) := by unfold vputR; rw [ho]
    have e2 : withR data l = (o ++ data, 0) := by unfold withR; rw [ho]
    have hol : o.length ≤ 0 + 8 * l.length := vput_len ho
    rw [e1] at HP
    rw [e2]
    clear P hb hC6 hr1 hw ho e1 e2
    go_enter Try.func49, Try.ntmps49
    go_wp2_with fail
    refine HP.out.mono ?_
    clear HP
    rintro e w2 ⟨v, rfl, R2, B2⟩
    have hk := blk_below HB.out B2
    have k6 := blk_cell hk 6
    have HR2 := Lib.hid R2
    have HB2 := Lib.hid B2
    clear hk R2 B2
    go_wp2_with (first
      | ((with_reducible refine gate_builtin (b := .append) (xs := #[.tmp 15, .tmp 17]) rfl ?_); refine appB (w0 := w) w.heap.size rfl (.tmp 15) (.tmp 17) rfl (A := A6) (ys := data) HR2.out rfl rfl rfl (Kd.C_below HC6.out HB2.out) HB2.out HB2.out.size (by omega) ?_; intro v3 w3 R3 B3 G3 N3; clear G3 N3 k6))
    go_ret2
    exact ⟨_, rfl, R3, B3⟩
end Go.Proofs.Ytmccghadgihbpaa.With
