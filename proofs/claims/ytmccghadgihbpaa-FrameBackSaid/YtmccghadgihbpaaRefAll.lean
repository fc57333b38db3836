/- The document's short numbers, from nothing: a row of the call's own. -/
import Derived.Test.YtmccghadgihbpaaRefPut
namespace Go.Proofs.Ytmccghadgihbpaa.RefAll
open Go Go.RowKit Go.Proofs.YtmccghadgihbpaaW.PrintWords Go.Proofs.YtmccghadgihbpaaW.PrintLast Go.Proofs.YtmccghadgihbpaaW.PrintMore Go.Proofs.Ytmccghadgihbpaa.Keep Go.Proofs.Ytmccghadgihbpaa.Mem Go.Proofs.Ytmccghadgihbpaa.VPut Go.Proofs.Ytmccghadgihbpaa.RefPut
set_option linter.unusedVariables false

theorem RB_C {w : World} {base : Nat} {A : Option Addr} {c : Nat} {l : List Int} (h : RB w base (.slice A l.length c) l) : CB w A l := by
  obtain ⟨A', c', e, hc, hC, -⟩ := h.read
  injection e with e1 e2 e3
  subst e1
  exact hC

set_option maxHeartbeats 1000000 in
theorem putNil_calls {w : World} {A1 : Option Addr} {c1 : Nat} {l : List Int} (hr1 : CU w A1 l) (hc1 : l.length ≤ c1) (hw : ∀ n ∈ l, 0 ≤ n ∧ n < 18446744073709551616) (hl : 8 * l.length ≤ 140737488355000) :
    Calls Try.prog 27 #[.slice none 0 0, .slice A1 l.length c1] w fun e w' => ∃ v, e = .returned (.tuple #[v, .bool (vput [] l).isSome]) ∧ RB w' w.heap.size v (vputR [] l).1 ∧ Below w.heap.size w w' := by
  have HW := Lib.hid hw
  have HR1 := Lib.hid hr1
  clear hw hr1
  go_enter Try.func27, Try.ntmps27
  go_wp2_with fail
  go_loopw [0, 6] (fun v i wr => ∃ (k : Nat) (out : List Int) (A : Option Addr) (c : Nat), k ≤ l.length ∧ i = .int .i64 k ∧ v = .slice A out.length c ∧ out.length ≤ c ∧ Hid (RB wr w.heap.size (.slice A out.length c) out) ∧ Hid (Below w.heap.size w wr) ∧ out.length ≤ 8 * k ∧ Hid (vput [] l = vput out (l.drop k))) (fun _ i _ => l.length - (intOf i).toNat)
  case atStart => exact ⟨0, [], none, 0, Nat.zero_le _, rfl, rfl, Nat.le_refl _, Lib.hid (Kd.R_nil _ _ _ _ _), Lib.hid (Below.refl _ _), by simp, Lib.hid rfl⟩
  case round =>
    obtain ⟨k, out, A, c, hk, rfl, rfl, hoc, HR, HB, hlen, HV⟩ := hrel
    by_cases hlt : k < l.length
    · obtain ⟨ad, rfl, hcell⟩ := Kd.at_int (Kd.C_below HR1.out HB.out) (k : Int) (Int.natCast_nonneg _) (by omega)
      have hb0 := HW.out l[k] (List.getElem_mem hlt)
      have e0 : rd l (k : Int) = l[k] := by unfold rd; simp [List.getD_eq_getElem?_getD, List.getElem?_eq_getElem hlt]
      have ed : l.drop k = l[k] :: l.drop (k + 1) := List.drop_eq_getElem_cons hlt
      rw [e0, Int.toNat_natCast] at hcell
      have HV2 : Hid (vput [] l = if l[k] < 4611686018427387904 then vput (out ++ vbytes l[k]) (l.drop (k + 1)) else none) := by
        show vput [] l = _
        rw [HV.out, ed]; rfl
      clear e0 ed HV
      obtain ⟨n0, n1⟩ := hb0
      generalize l[k] = n at *
      have HRC := Lib.hid (RB_C HR.out)
      by_cases hn : n < 4611686018427387904
      · go_wp2_with fail
        refine (put_calls HRC.out hoc n n0 hn (by omega)).mono ?_
        rintro e w1 ⟨v, rfl, R1, B1⟩
        obtain ⟨A2, c2, rfl, hc2, hC2, _⟩ := R1.read
        have HC2 := Lib.hid (Kd.R_lower R1 HB.out.size)
        have HB2 := Lib.hid (HB.out.trans (B1.mono HB.out.size))
        clear R1 B1 hC2 HR HB
        go_wp2_with fail
        go_roundw
        case rel => exact ⟨k + 1, out ++ vbytes n, A2, c2, by omega, by go_num, by rw [List.length_append], hc2, HC2, HB2, by have := vbytes_length n; simp; omega, Lib.hid (by rw [HV2.out, if_pos hn])⟩
        case measure => simp [intOf]; omega
      · go_wp2_with fail
        go_ret2
        have hv : vput [] l = none := by rw [HV2.out, if_neg (by omega)]
        have hv2 : vputR [] l = ([], 2) := by unfold vputR; rw [hv]
        rw [hv2, hv]
        exact ⟨_, rfl, Kd.R_nil _ _ _ _ _, HB.out⟩
    · have hke : k = l.length := by omega
      subst hke
      clear hlt
      go_wp2
      go_ret2
      have hv : vput [] l = some out := by
        have := HV.out
        rw [List.drop_length] at this
        rw [this]
        rfl
      have hv2 : vputR [] l = (out, 0) := by unfold vputR; rw [hv]
      rw [hv2, hv]
      exact ⟨_, rfl, HR.out, HB.out⟩

end Go.Proofs.Ytmccghadgihbpaa.RefAll
