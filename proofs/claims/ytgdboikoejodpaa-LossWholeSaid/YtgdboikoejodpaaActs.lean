/- The acts of the laws of chapter 18, as they come in. -/
import Derived.Test.YtgdboikoejodpaaOpenL
import Derived.Test.YtgdboikoejodpaaLaw
namespace Go.Proofs.Ytgdboikoejodpaa.Acts
open Go Go.RowKit Go.Proofs.YtgdboikoejodpaaW.PrintWords Go.Proofs.YtgdboikoejodpaaW.PrintLast Go.Proofs.YtgdboikoejodpaaW.PrintMore Go.Proofs.Ytgdboikoejodpaa.Keep Go.Proofs.Ytgdboikoejodpaa.Led Go.Proofs.Ytgdboikoejodpaa.Rate Go.Proofs.Ytgdboikoejodpaa.Rd Go.Proofs.Ytgdboikoejodpaa.Timer Go.Proofs.Ytgdboikoejodpaa.LedSp Go.Proofs.Ytgdboikoejodpaa.Drop Go.Proofs.Ytgdboikoejodpaa.In Go.Proofs.Ytgdboikoejodpaa.Split Go.Proofs.Ytgdboikoejodpaa.GoneP Go.Proofs.Ytgdboikoejodpaa.Gone Go.Proofs.Ytgdboikoejodpaa.AckP Go.Proofs.Ytgdboikoejodpaa.Ack Go.Proofs.Ytgdboikoejodpaa.Clone Go.Proofs.Ytgdboikoejodpaa.Sent Go.Proofs.Ytgdboikoejodpaa.Inv Go.Proofs.Ytgdboikoejodpaa.Fire Go.Proofs.Ytgdboikoejodpaa.Law Go.Proofs.Ytgdboikoejodpaa.Opens Go.Proofs.Ytgdboikoejodpaa.OpenL
set_option linter.unusedVariables false

/-- An act, as it comes in. -/
structure A where
  kind : Int
  in_ : Int
  n : Int
  wait : Int
  size : Int
  asks : Bool
  p : P
  spans : List Q
  space : Int
def A.tup (x : A) : Int × Int × Int × Int × Int × Bool × P × List Q × Int := (x.kind, x.in_, x.n, x.wait, x.size, x.asks, x.p, x.spans, x.space)
def kA : Kd A := Kd.iso (Kd.pair (Kd.int .u8) (Kd.pair (Kd.int .u8) (Kd.pair (Kd.int .u8) (Kd.pair (Kd.int .u16) (Kd.pair (Kd.int .u16) (Kd.pair Kd.bool (Kd.pair kP (Kd.pair (Kd.slice 35 kQ) (Kd.int .i64))))))))) A.tup
def BA (x : A) : Prop := (Lit.int .u8 x.kind).wf = true ∧ (Lit.int .u8 x.in_).wf = true ∧ (Lit.int .u8 x.n).wf = true ∧ (Lit.int .u16 x.wait).wf = true ∧ (Lit.int .u16 x.size).wf = true ∧ True ∧ BP x.p ∧ (x.spans.length ≤ 9223372036854775807 ∧ ∀ s ∈ x.spans, BQ s) ∧ (Lit.int .i64 x.space).wf = true
theorem kA_open {w : World} {x : A} {cs : List Value} (h : kA.K w x cs) : ∃ F f B d, cs = [.int .u8 x.kind, .int .u8 x.in_, .int .u8 x.n, .int .u16 x.wait, .int .u16 x.size, .bool x.asks, .int .u64 x.p.pn, .int .u64 x.p.time, .int .u64 x.p.size, .bool x.p.asks, .slice F x.p.fr.length f, .slice B x.spans.length d, .int .i64 x.space] ∧ x.p.fr.length ≤ f ∧ kR.C w F x.p.fr.length x.p.fr ∧ x.spans.length ≤ d ∧ kQ.C w B x.spans.length x.spans := by
  obtain ⟨_, _, rfl, rfl, ⟨_, _, rfl, rfl, ⟨_, _, rfl, rfl, ⟨_, _, rfl, rfl, ⟨_, _, rfl, rfl, ⟨_, _, rfl, rfl, ⟨cp, _, rfl, hp, ⟨_, _, rfl, ⟨B, d, rfl, ld, gd⟩, rfl⟩⟩⟩⟩⟩⟩⟩⟩ := h
  obtain ⟨F, f, rfl, lf, gf⟩ := kP_open hp
  exact ⟨F, f, B, d, rfl, lf, gf, ld, gd⟩
theorem opensA : Opens kA BA Try.prog 57 := by
  have hu : Try.prog.underlying 57 = some (.struct _) := Try.underlying57
  have h8 := opens_int Try.underlying5
  have h16 := opens_int Try.underlying55
  have h := opens_struct hu (n := 1 + (1 + (1 + (1 + (1 + (1 + (5 + (1 + 1)))))))) (by kernel_rfl)
    (fields_cons (off := 0) rfl (by kernel_rfl) rfl h8 (fields_cons rfl (by kernel_rfl) rfl h8 (fields_cons rfl (by kernel_rfl) rfl h8 (fields_cons rfl (by kernel_rfl) rfl h16 (fields_cons rfl (by kernel_rfl) rfl h16
      (fields_cons rfl (by kernel_rfl) rfl (opens_bool Try.underlying4) (fields_cons rfl (by kernel_rfl) rfl opensP (fields_cons rfl (by kernel_rfl) rfl OpenL.opensSpans (fields_one rfl (by kernel_rfl) rfl (opens_int Try.underlying3))))))))))
  exact opens_iso A.tup (fun x => ⟨x.1, x.2.1, x.2.2.1, x.2.2.2.1, x.2.2.2.2.1, x.2.2.2.2.2.1, x.2.2.2.2.2.2.1, x.2.2.2.2.2.2.2.1, x.2.2.2.2.2.2.2.2⟩) (fun _ => rfl) h
theorem opensActs : Opens (Kd.slice 57 kA) (fun l => l.length ≤ 9223372036854775807 ∧ ∀ x ∈ l, BA x) Try.prog 50 :=
  opens_slice Try.underlying50 (by kernel_rfl) opensA
def zA : A := ⟨0, 0, 0, 0, 0, false, ⟨0, 0, 0, false, []⟩, [], 0⟩
theorem AC_get {w : World} {C : Option Addr} {n : Nat} {xs : List A} (h : Kd.C kA w C n xs) (k : Nat) (hk : k < n) : ∃ ad F f B d, C = some ad ∧ (w.cell? (ad.add (k * 13)) = some (.int .u8 (xs.getD k zA).kind) ∧ w.cell? ⟨(ad.add (k * 13)).block, (ad.add (k * 13)).off + 1, none⟩ = some (.int .u8 (xs.getD k zA).in_) ∧ w.cell? ⟨(ad.add (k * 13)).block, (ad.add (k * 13)).off + 2, none⟩ = some (.int .u8 (xs.getD k zA).n) ∧ w.cell? ⟨(ad.add (k * 13)).block, (ad.add (k * 13)).off + 3, none⟩ = some (.int .u16 (xs.getD k zA).wait) ∧ w.cell? ⟨(ad.add (k * 13)).block, (ad.add (k * 13)).off + 4, none⟩ = some (.int .u16 (xs.getD k zA).size) ∧ w.cell? ⟨(ad.add (k * 13)).block, (ad.add (k * 13)).off + 5, none⟩ = some (.bool (xs.getD k zA).asks)) ∧ (w.cell? ⟨(ad.add (k * 13)).block, (ad.add (k * 13)).off + 6, none⟩ = some (.int .u64 (xs.getD k zA).p.pn) ∧ w.cell? ⟨(ad.add (k * 13)).block, (ad.add (k * 13)).off + 7, none⟩ = some (.int .u64 (xs.getD k zA).p.time) ∧ w.cell? ⟨(ad.add (k * 13)).block, (ad.add (k * 13)).off + 8, none⟩ = some (.int .u64 (xs.getD k zA).p.size) ∧ w.cell? ⟨(ad.add (k * 13)).block, (ad.add (k * 13)).off + 9, none⟩ = some (.bool (xs.getD k zA).p.asks) ∧ w.cell? ⟨(ad.add (k * 13)).block, (ad.add (k * 13)).off + 10, none⟩ = some (.slice F (xs.getD k zA).p.fr.length f)) ∧ (w.cell? ⟨(ad.add (k * 13)).block, (ad.add (k * 13)).off + 11, none⟩ = some (.slice B (xs.getD k zA).spans.length d) ∧ w.cell? ⟨(ad.add (k * 13)).block, (ad.add (k * 13)).off + 12, none⟩ = some (.int .i64 (xs.getD k zA).space)) ∧ Kd.C kR w F (xs.getD k zA).p.fr.length (xs.getD k zA).p.fr ∧ Kd.C kQ w B (xs.getD k zA).spans.length (xs.getD k zA).spans := by
  obtain ⟨ad, c, e, _, hK, hc0⟩ := Kd.C_get h zA (k : Int) (by omega) (by omega)
  have hc : ∀ j u, c[j]? = some u → w.cell? (ad.add (k * 13 + j)) = some u := hc0
  have hK : kA.K w (xs.getD k zA) c := hK
  obtain ⟨F, f, B, d, rfl, -, gf, -, gd⟩ := kA_open hK
  have hf : ∀ j u, 0 < j → _ → w.cell? ⟨(ad.add (k * 13)).block, (ad.add (k * 13)).off + j, none⟩ = some u := fun j u hj hu => by rw [← add_field _ _ j hj]; exact hc j u hu
  exact ⟨ad, F, f, B, d, e, ⟨hc 0 _ rfl, hf 1 _ (by omega) rfl, hf 2 _ (by omega) rfl, hf 3 _ (by omega) rfl, hf 4 _ (by omega) rfl, hf 5 _ (by omega) rfl⟩, ⟨hf 6 _ (by omega) rfl, hf 7 _ (by omega) rfl, hf 8 _ (by omega) rfl, hf 9 _ (by omega) rfl, hf 10 _ (by omega) rfl⟩, ⟨hf 11 _ (by omega) rfl, hf 12 _ (by omega) rfl⟩, gf, gd⟩
end Go.Proofs.Ytgdboikoejodpaa.Acts
