/- The walk of the law VarintPuts: numbers behind bytes are put as the document says; what stood there, and behind, is as it was. -/
import Derived.Test.YtmccghadgihbpaaAwake10
import Derived.Test.YtmccghadgihbpaaRefPut
namespace Go.Proofs.Ytmccghadgihbpaa.VarintPutsWalk
open Go Go.RowKit Go.Proofs.YtmccghadgihbpaaW.PrintWords Go.Proofs.YtmccghadgihbpaaW.PrintLast Go.Proofs.YtmccghadgihbpaaW.PrintMore Go.Proofs.Ytmccghadgihbpaa.Keep Go.Proofs.Ytmccghadgihbpaa.Mem Go.Proofs.Ytmccghadgihbpaa.VPut
set_option linter.unusedVariables false

theorem small {w : World} {A0 A1 : Option Addr} {c0 c1 : Nat} {b l : List Int} (hr0 : CB w A0 b) (hc0 : b.length ≤ c0) (hr1 : CU w A1 l) (hc1 : l.length ≤ c1) (hw : ∀ n ∈ l, 0 ≤ n ∧ n < 18446744073709551616) (hb : b.length ≤ 1000) (hl : l.length ≤ 200) :
    Calls Try.prog 7 #[.slice A0 b.length c0, .slice A1 l.length c1] w fun e w' => e = .returned (.bool true) ∧ Below w.heap.size w w' := by
  have HR0 := Lib.hid hr0
  have HR1 := Lib.hid hr1
  have HW := Lib.hid hw
  clear hr0 hr1 hw
  go_enter Try.func7, Try.ntmps7
  go_wp2_with fail
  refine (Awake10.awake _).mono ?_
  rintro e w1 ⟨rfl, B1⟩
  have HB1 := Lib.hid B1
  clear B1
  go_wp2_with (first
    | ((with_reducible refine gate_dst (N := 20) rfl ?_); refine litB (w0 := w) w.heap.size rfl (N := 20) rfl rfl HB1.out HB1.out.size ?_; intro v2 w2 R2 B2 G2 N2; clear G2 N2; have HB2 := Lib.hid B2; clear B2)
    | ((with_reducible refine gate_builtin (b := .append) (xs := #[.tmp 20, .tmp 21]) rfl ?_); refine appB (w0 := w) w.heap.size rfl _ _ rfl (A := A0) (ys := b) R2 rfl rfl rfl (Kd.C_below HR0.out HB2.out) HB2.out HB2.out.size (by simp; omega) ?_; intro v3 w3 R3 B3 G3 N3; clear G3 N3 R2; have HB3 := Lib.hid B3; clear B3)
    | ((with_reducible refine gate_builtin (b := .append) (xs := #[.tmp 22, .tmp 23]) rfl ?_); refine appB (w0 := w) w.heap.size rfl _ _ rfl (A := some ⟨w3.heap.size, 0, none⟩) (ys := [7, 7]) (Kd.R_below R3 (below_alloc (Below.refl _ _) _)) rfl rfl rfl (C_lit .u8 w3 5 [7, 7] (by simp)) (HB3.out.alloc HB3.out.size _) (Nat.le_trans HB3.out.size (by simp)) (by simp; omega) ?_; intro v4 w4 R4 B4 G4 N4; clear G4 N4 R3; have HB4 := Lib.hid B4; clear B4; obtain ⟨A4, c4, rfl, hc4, hC4, hA4⟩ := R4.read; have HC4 := Lib.hid hC4; clear R4 hC4; have hct : b.length + 2 ≤ c4 := (by simpa using hc4); have hgr := growB .i64 (A := A4) (n := b.length + 2) (c := c4) (m := b.length) (by omega)))
  have hbt : ([] ++ b ++ [7, 7]).take b.length = b := by simp
  have CB4 : CB w4 A4 b := by
    have h := Kd.C_take (m := b.length) HC4.out (by simp)
    rwa [hbt] at h
  have PQ := put_calls (w := w4) (A0 := A4) (c0 := c4) (b := b) (A1 := A1) (c1 := c1) (l := l) CB4 (by omega) (Kd.C_below HR1.out HB4.out) hc1 HW.out (by omega)
  have HC4b := Lib.hid CB4
  have hgr1 := growB .i64 (A := A4) (n := b.length) (c := c4) (m := b.length + 1) (by omega)
  clear hbt CB4 hgr
  refine PQ.mono ?_
  clear PQ
  rintro e w5 ⟨v5, rfl, R5, B5⟩
  obtain ⟨A5, c5, rfl, hc5, hC5, hA5⟩ := R5.read
  have HC5 := Lib.hid hC5
  have HC4 := Lib.hid (Kd.C_below HC4.out B5)
  have HC4b := Lib.hid (Kd.C_below HC4b.out B5)
  have HB5 := Lib.hid (HB4.out.trans (B5.mono HB4.out.size))
  clear hC5 R5 B5 hA5
  go_wp2_with (first
    | ((with_reducible refine gate_dst (N := 35) rfl ?_); refine litB (w0 := w5) w5.heap.size rfl (N := 35) rfl rfl (Below.refl _ _) (Nat.le_refl _) ?_; intro v6 w6 R6 B6 G6 N6; clear G6 N6; have HB6 := Lib.hid B6; clear B6)
    | ((with_reducible refine gate_builtin (b := .append) (xs := #[.tmp 35, .tmp 36]) rfl ?_); refine appB (w0 := w5) w5.heap.size rfl _ _ rfl (A := A0) (ys := b) R6 rfl rfl rfl (Kd.C_below HR0.out (HB5.out.trans (HB6.out.mono HB5.out.size))) HB6.out HB6.out.size (by simp; omega) ?_; intro v7 w7 R7 B7 G7 N7; clear G7 N7 R6; have HB7 := Lib.hid B7; clear B7; obtain ⟨A7, c7, rfl, hc7, hC7, hA7⟩ := R7.read; have HC7 := Lib.hid hC7; clear R7 hC7))
  have HC5 := Lib.hid (Kd.C_below HC5.out HB7.out)
  have HC4 := Lib.hid (Kd.C_below HC4.out HB7.out)
  have HC4b := Lib.hid (Kd.C_below HC4b.out HB7.out)
  have HB8 := Lib.hid (HB5.out.trans (HB7.out.mono HB5.out.size))
  have PQ := RefPut.putAll_calls (w := w7) (A0 := A7) (c0 := c7) (b := b) (A1 := A1) (c1 := c1) (l := l) HC7.out hc7 (Kd.C_below HR1.out HB8.out) hc1 HW.out (by omega)
  refine PQ.mono ?_
  clear PQ
  rintro e w8 ⟨A8, c8, rfl, hc8, hC8, B8⟩
  have HC5 := Lib.hid (Kd.C_below HC5.out B8)
  have HC4 := Lib.hid (Kd.C_below HC4.out B8)
  have HC4b := Lib.hid (Kd.C_below HC4b.out B8)
  have HC8 := Lib.hid hC8
  have HB9 := Lib.hid (HB8.out.trans (B8.mono HB8.out.size))
  have hs4 := Kd.C_string (P := Try.prog) (A := A4) (c := c4) Try.underlying30 Try.underlying5 Try.underlying9 HC4b.out
  have hs0 := Kd.C_string (P := Try.prog) (A := A0) (c := c0) Try.underlying30 Try.underlying5 Try.underlying9 (Kd.C_below HR0.out HB9.out)
  have hs5 := Kd.C_string (P := Try.prog) (A := A5) (c := c5) Try.underlying30 Try.underlying5 Try.underlying9 HC5.out
  have hs8 := Kd.C_string (P := Try.prog) (A := A8) (c := c8) Try.underlying30 Try.underlying5 Try.underlying9 hC8
  obtain ⟨ad, rfl, hcell⟩ := Kd.at_int HC4.out (b.length : Int) (Int.natCast_nonneg _) (by simp; omega)
  have e7 : rd ([] ++ b ++ [7, 7]) (b.length : Int) = 7 := by simp [rd]
  rw [e7, Int.toNat_natCast] at hcell
  clear e7 B8 hC8 HC4 HC4b HC5 HC7 HC8
  cases hv : vput b l with
  | none =>
    have e1 : vputR b l = ([], 2) := by unfold vputR; rw [hv]
    simp only [e1] at *
    clear e1 hv
    go_wp2_with fail
    go_ret
    exact ⟨by simp, HB9.out⟩
  | some o =>
    have e1 : vputR b l = (o, 0) := by unfold vputR; rw [hv]
    simp only [e1] at *
    clear e1 hv
    go_wp2_with fail
    go_ret
    exact ⟨by simp, HB9.out⟩

theorem long {w : World} {A0 A1 : Option Addr} {c0 c1 : Nat} {b l : List Int} (h : 1000 < b.length ∨ (b.length ≤ 1000 ∧ 200 < l.length)) :
    Calls Try.prog 7 #[.slice A0 b.length c0, .slice A1 l.length c1] w fun e w' => e = .returned (.bool true) ∧ Below w.heap.size w w' := by
  rcases h with h | ⟨h, h'⟩
  all_goals
    go_enter Try.func7, Try.ntmps7
    go_wp2_with fail
    refine (Awake10.awake _).mono ?_
    rintro e w1 ⟨rfl, B1⟩
    go_wp2_with fail
    go_ret
    exact ⟨rfl, B1⟩

theorem law {w : World} {A0 A1 : Option Addr} {c0 c1 : Nat} {b l : List Int} (hr0 : CB w A0 b) (hc0 : b.length ≤ c0) (hr1 : CU w A1 l) (hc1 : l.length ≤ c1) (hw : ∀ n ∈ l, (Lit.int .u64 n).wf = true) :
    Calls Try.prog 7 #[.slice A0 b.length c0, .slice A1 l.length c1] w fun e w' => e = .returned (.bool true) ∧ Below w.heap.size w w' := by
  by_cases h1 : 1000 < b.length
  · exact long (.inl h1)
  · by_cases h2 : 200 < l.length
    · exact long (.inr ⟨by omega, h2⟩)
    · refine small hr0 hc0 hr1 hc1 (fun n hn => ?_) (by omega) (by omega)
      have h := hw n hn
      simp [Lit.wf, IntKind.min, IntKind.max, IntKind.bits, IntKind.signed] at h
      omega

end Go.Proofs.Ytmccghadgihbpaa.VarintPutsWalk
