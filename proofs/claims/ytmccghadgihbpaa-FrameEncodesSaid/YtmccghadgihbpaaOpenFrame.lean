/- Frames and spans that came in, as a walk has them. -/
import Derived.Test.YtmccghadgihbpaaOpens
import Derived.Test.YtmccghadgihbpaaSpans
namespace Go.Proofs.Ytmccghadgihbpaa.OpenFrame
open Go.ChangeShapes Go.WideShapes Go.ChangeAt Go.RowKit Go.Proofs.YtmccghadgihbpaaW.PrintWords Go.Proofs.Ytmccghadgihbpaa.Opens Go.Proofs.Ytmccghadgihbpaa.PFrameBack Go.Proofs.Ytmccghadgihbpaa.Spans
set_option linter.unusedVariables false

theorem arg_struct {H : Type} {enc : TypeId × Value → H} {P : Program} {w : World} {α : Type} {d : Kd α} {B : α → Prop} {t : TypeId} {fs : Array Field} {r : Reach} {b0 : Nat} {v : Value} {fuel : Nat} {y : DataW H × List MemPlace}
    (ho : Opens d B P t) (ht : P.underlying t = some (.struct fs)) (hok : Value.okWide P w r b0 t v) (h : DataW.trod enc P w 0 (fun _ => true) true fuel t v.cells.toList = some y) :
    ∃ x cs, v = .agg cs.toArray ∧ d.K w x cs ∧ B x := by
  simp only [Value.okWide, ht] at hok
  obtain ⟨xs, rfl, hn, -⟩ := hok
  obtain ⟨x, hK, hb⟩ := ho.of h
  exact ⟨x, xs.toList, by simp, hK, hb⟩

def wf64 (n : Int) : Prop := (Lit.int .u64 n).wf = true
theorem wf64_bd {n : Int} (h : wf64 n) : 0 ≤ n ∧ n < 18446744073709551616 := by
  unfold wf64 at h
  simp [Lit.wf, IntKind.min, IntKind.max, IntKind.bits, IntKind.signed] at h
  omega
theorem wf8_bd {n : Int} (h : (Lit.int .u8 n).wf = true) : 0 ≤ n ∧ n < 256 := by
  simp [Lit.wf, IntKind.min, IntKind.max, IntKind.bits, IntKind.signed] at h
  omega

def B84 (s : S84) : Prop := wf64 s.f0 ∧ wf64 s.f1
theorem opens84 : Opens k84 B84 Try.prog 84 := by
  have hu : Try.prog.underlying 84 = some (.struct _) := Try.underlying84
  have h : Opens (Kd.pair (Kd.int .u64) (Kd.int .u64)) (fun x => wf64 x.1 ∧ wf64 x.2) Try.prog 84 :=
    opens_struct hu (n := 1 + 1) (by kernel_rfl) (fields_cons (off := 0) rfl (by kernel_rfl) rfl (opens_int Try.underlying22) (fields_one (off := 0 + 1) rfl (by kernel_rfl) rfl (opens_int Try.underlying22)))
  exact opens_imp (opens_iso (fun x : S84 => (x.f0, x.f1)) (fun x => ⟨x.1, x.2⟩) (fun _ => rfl) h) (fun _ h => h)

theorem opensSpans : Opens (Kd.slice 84 k84) (fun l => l.length ≤ 9223372036854775807 ∧ ∀ x ∈ l, B84 x) Try.prog 56 :=
  opens_slice Try.underlying56 (by kernel_rfl) opens84
theorem opensBytes : Opens (Kd.slice 5 (Kd.int .u8)) (fun l => l.length ≤ 9223372036854775807 ∧ ∀ x ∈ l, (Lit.int .u8 x).wf = true) Try.prog 30 :=
  opens_slice Try.underlying30 (by kernel_rfl) (opens_int Try.underlying5)

def B58 (x : S58) : Prop := wf64 x.f0 ∧ wf64 x.f1 ∧ wf64 x.f2 ∧ wf64 x.f3 ∧ wf64 x.f4 ∧ True ∧ (x.f6.length ≤ 9223372036854775807 ∧ ∀ n ∈ x.f6, (Lit.int .u8 n).wf = true) ∧ (x.f7.length ≤ 9223372036854775807 ∧ ∀ s ∈ x.f7, B84 s)
theorem B58_acks {x : S58} (h : B58 x) : bds x.f7 := fun s hs => ⟨wf64_bd (h.2.2.2.2.2.2.2.2 s hs).1, wf64_bd (h.2.2.2.2.2.2.2.2 s hs).2⟩
theorem B58_data {x : S58} (h : B58 x) : ∀ n ∈ x.f6, 0 ≤ n ∧ n < 256 := fun n hn => wf8_bd (h.2.2.2.2.2.2.1.2 n hn)

theorem opens58 : Opens k58 B58 Try.prog 58 := by
  have hu : Try.prog.underlying 58 = some (.struct _) := Try.underlying58
  have h64 := opens_int Try.underlying22
  have h := opens_struct hu (n := 1 + (1 + (1 + (1 + (1 + (1 + (1 + 1))))))) (by kernel_rfl)
    (fields_cons (off := 0) rfl (by kernel_rfl) rfl h64 (fields_cons rfl (by kernel_rfl) rfl h64 (fields_cons rfl (by kernel_rfl) rfl h64 (fields_cons rfl (by kernel_rfl) rfl h64 (fields_cons rfl (by kernel_rfl) rfl h64
      (fields_cons rfl (by kernel_rfl) rfl (opens_bool Try.underlying4) (fields_cons rfl (by kernel_rfl) rfl opensBytes (fields_one rfl (by kernel_rfl) rfl opensSpans))))))))
  exact opens_iso (fun x : S58 => (x.f0, x.f1, x.f2, x.f3, x.f4, x.f5, x.f6, x.f7)) (fun x => ⟨x.1, x.2.1, x.2.2.1, x.2.2.2.1, x.2.2.2.2.1, x.2.2.2.2.2.1, x.2.2.2.2.2.2.1, x.2.2.2.2.2.2.2⟩) (fun _ => rfl) h

theorem opensFrames : Opens (Kd.slice 58 k58) (fun l => l.length ≤ 9223372036854775807 ∧ ∀ x ∈ l, B58 x) Try.prog 60 :=
  opens_slice Try.underlying60 (by kernel_rfl) opens58

/-- A slice as an argument. -/
theorem arg_slice {H : Type} {enc : TypeId × Value → H} {P : Program} {w : World} {α : Type} {d : Kd α} {B : List α → Prop} {t e : TypeId} {r : Reach} {b0 : Nat} {v : Value} {fuel : Nat} {y : DataW H × List MemPlace}
    (ho : Opens (Kd.slice e d) B P t) (ht : P.underlying t = some (.slice e)) (hok : Value.okWide P w r b0 t v) (h : DataW.trod enc P w 0 (fun _ => true) true fuel t v.cells.toList = some y) :
    ∃ A c l, v = .slice A l.length c ∧ l.length ≤ c ∧ Kd.C d w A l.length l ∧ B l := by
  obtain ⟨A0, n0, c0, rfl⟩ := okWide_slice ht hok
  obtain ⟨l, ⟨A, c, e1, hc, hC⟩, hb⟩ := ho.of h
  have : A0 = A ∧ n0 = l.length ∧ c0 = c := by simpa [Value.cells] using e1
  obtain ⟨rfl, rfl, rfl⟩ := this
  exact ⟨A0, c0, l, rfl, hc, hC, hb⟩
end Go.Proofs.Ytmccghadgihbpaa.OpenFrame
