/- How an argument's reading is opened for a walk: structs, slices of structs, arrays. Plain laws over the model, by kinds. -/
import Derived.Test.YtgdboikoejodpaaOpen
import Derived.Test.YtgdboikoejodpaaLaw
namespace Go.Proofs.Ytgdboikoejodpaa.Opens
open Go.ChangeShapes Go.WideShapes Go.ChangeAt Go.RowKit Go.Proofs.YtgdboikoejodpaaW.PrintWords
set_option linter.unusedVariables false

/-- What is read at type t is of kind d, and as B says. -/
structure Opens {α : Type} (d : Kd α) (B : α → Prop) (P : Program) (t : TypeId) : Prop where
  of : ∀ {H : Type} {enc : TypeId × Value → H} {w : World} {fuel : Nat} {cs : List Value} {y : DataW H × List MemPlace}, DataW.trod enc P w 0 (fun _ => true) true fuel t cs = some y → ∃ x, d.K w x cs ∧ B x

theorem opens_int {P : Program} {t : TypeId} {k : IntKind} (ht : P.underlying t = some (.int k)) : Opens (Kd.int k) (fun n => (Lit.int k n).wf = true) P t := by
  refine ⟨?_⟩
  intro H enc w fuel cs y h
  obtain ⟨n, rfl, rfl, hw⟩ := DataW.trod_int ht h
  exact ⟨n, rfl, hw⟩

theorem opens_bool {P : Program} {t : TypeId} (ht : P.underlying t = some .bool) : Opens Kd.bool (fun _ => True) P t := by
  refine ⟨?_⟩
  intro H enc w fuel cs y h
  cases fuel with
  | zero => simp [DataW.trod] at h
  | succ n =>
    rw [DataW.trod_step] at h
    unfold DataW.trodStep at h
    rw [ht] at h
    split at h
    all_goals first | (rename_i b _; exact ⟨b, rfl, trivial⟩) | simp_all

theorem opens_string {P : Program} {t : TypeId} (ht : P.underlying t = some .string) : Opens Kd.string (fun s => s.size ≤ maxLen) P t := by
  refine ⟨?_⟩
  intro H enc w fuel cs y h
  obtain ⟨n, rfl, rfl, hw⟩ := DataW.trod_string ht h
  exact ⟨n, rfl, hw⟩

theorem opens_imp {α : Type} {d : Kd α} {B B' : α → Prop} {P : Program} {t : TypeId} (h : Opens d B P t) (hB : ∀ x, B x → B' x) : Opens d B' P t := by
  refine ⟨?_⟩
  intro H enc w fuel cs y hr
  obtain ⟨x, hK, hb⟩ := h.of hr
  exact ⟨x, hK, hB x hb⟩

theorem opens_iso {α β : Type} {d : Kd α} {B : α → Prop} {P : Program} {t : TypeId} (f : β → α) (g : α → β) (hfg : ∀ x, f (g x) = x) (h : Opens d B P t) : Opens (Kd.iso d f) (fun y => B (f y)) P t := by
  refine ⟨?_⟩
  intro H enc w fuel cs y hr
  obtain ⟨x, hK, hb⟩ := h.of hr
  refine ⟨g x, ?_, ?_⟩
  · show d.K w (f (g x)) cs
    rw [hfg]; exact hK
  · show B (f (g x))
    rw [hfg]; exact hb

/-- Fields, from cell off on, n cells. -/
def Fields {α : Type} (d : Kd α) (B : α → Prop) (P : Program) (fs : List Field) (off n : Nat) : Prop :=
  d.sz = n ∧ ∀ {H : Type} {enc : TypeId × Value → H} {w : World} {m : Nat} {cs : List Value}, (∀ f ∈ fs, ∃ y, DataW.trod enc P w 0 (fun _ => true) true m f.type ((cs.drop f.offset).take (P.cellsOf f.type)) = some y) → ∃ x, d.K w x ((cs.drop off).take n) ∧ B x

theorem fields_one {α : Type} {d : Kd α} {B : α → Prop} {P : Program} {f : Field} {off n : Nat} (ho : f.offset = off) (hn : P.cellsOf f.type = n) (hs : d.sz = n) (h : Opens d B P f.type) : Fields d B P [f] off n := by
  refine ⟨hs, ?_⟩
  intro H enc w m cs hf
  obtain ⟨y, hy⟩ := hf f (by simp)
  rw [ho, hn] at hy
  exact h.of hy

theorem fields_cons {α β : Type} {d : Kd α} {e : Kd β} {B : α → Prop} {C : β → Prop} {P : Program} {f : Field} {fs : List Field} {off n m : Nat} (ho : f.offset = off) (hn : P.cellsOf f.type = n) (hs : d.sz = n) (h : Opens d B P f.type) (hfs : Fields e C P fs (off + n) m) :
    Fields (Kd.pair d e) (fun x => B x.1 ∧ C x.2) P (f :: fs) off (n + m) := by
  refine ⟨by show d.sz + e.sz = _; rw [hs, hfs.1], ?_⟩
  intro H enc w fu cs hf
  obtain ⟨y, hy⟩ := hf f (by simp)
  rw [ho, hn] at hy
  obtain ⟨x, hK, hb⟩ := h.of hy
  obtain ⟨z, hK2, hc⟩ := hfs.2 (fun g hg => hf g (List.mem_cons_of_mem _ hg))
  refine ⟨(x, z), ⟨_, _, ?_, hK, hK2⟩, hb, hc⟩
  rw [List.take_add, List.drop_drop]

theorem opens_struct {α : Type} {d : Kd α} {B : α → Prop} {P : Program} {t : TypeId} {fs : Array Field} {n : Nat} (ht : P.underlying t = some (.struct fs)) (hc : P.cellsOf t = n) (h : Fields d B P fs.toList 0 n) : Opens d B P t := by
  refine ⟨?_⟩
  intro H enc w fuel cs y hr
  obtain ⟨xs, m, rfl, rfl, hl, hx, hf⟩ := DataW.trod_struct ht hr
  obtain ⟨x, hK, hb⟩ := h.2 (enc := enc) (w := w) (m := m) (cs := cs) (fun f hfm => by
    obtain ⟨i, hi, hfi⟩ := List.getElem_of_mem hfm
    have hi' : i < fs.size := by simpa using hi
    have := hf i f (by rw [Array.getElem?_eq_getElem hi']; simpa using hfi)
    rw [List.getElem?_eq_getElem (by omega)] at this
    exact ⟨_, this⟩)
  rw [List.drop_zero, List.take_of_length_le (by omega)] at hK
  exact ⟨x, hK, hb⟩

theorem mapM_own {w : World} {a : Addr} : ∀ (L : List Nat) (c : List Value), (L.mapM fun i => w.cell? (a.add i)) = some c → c.length = L.length ∧ ∀ (i : Nat) (u : Value), c[i]? = some u → ∃ j, L[i]? = some j ∧ w.cell? (a.add j) = some u
  | [], c, h => by
    simp at h
    subst h
    exact ⟨rfl, fun i u hu => by simp at hu⟩
  | j :: L, c, h => by
    rw [List.mapM_cons] at h
    simp only [bind, Option.bind_eq_some_iff, pure, Option.some.injEq] at h
    obtain ⟨v, hv, vs, hvs, rfl⟩ := h
    obtain ⟨hl, hi⟩ := mapM_own L vs hvs
    refine ⟨by simp [hl], fun i u hu => ?_⟩
    cases i with
    | zero => simp at hu; subst hu; exact ⟨j, rfl, hv⟩
    | succ i => exact hi i u (by simpa using hu)

theorem opens_slice {α : Type} {d : Kd α} {B : α → Prop} {P : Program} {t e : TypeId} (ht : P.underlying t = some (.slice e)) (hc : P.cellsOf e = d.sz) (h : Opens d B P e) : Opens (Kd.slice e d) (fun l => l.length ≤ 9223372036854775807 ∧ ∀ x ∈ l, B x) P t := by
  refine ⟨?_⟩
  intro H enc w fuel cs y hr
  rcases DataW.trod_slice ht hr with ⟨rfl, rfl⟩ | ⟨a, len, cap, elems, rest, n, rfl, rfl, rfl, hb, hl, hm, hlen, hel, hsp, hns⟩
  · exact ⟨[], ⟨none, 0, rfl, Nat.le_refl _, Kd.C_nil _ _⟩, by simp, by simp⟩
  · have hm' : cap ≤ 9223372036854775807 := hm
    have each : ∀ i, i < len → ∃ x c, d.K w x c ∧ B x ∧ w.cells? 0 (a.add (i * d.sz)) d.sz = some c := by
      intro i hi
      have h1 := hel i hi
      rw [List.getElem?_eq_getElem (by omega), Option.bind_eq_some_iff] at h1
      obtain ⟨c, hcs, hr1⟩ := h1
      rw [hc] at hcs
      obtain ⟨x, hK, hb⟩ := h.of hr1
      exact ⟨x, c, hK, hb, hcs⟩
    have each2 : ∀ i : Fin len, ∃ x, ∃ c, d.K w x c ∧ B x ∧ w.cells? 0 (a.add (i.1 * d.sz)) d.sz = some c := fun i => each i.1 i.2
    obtain ⟨f, hf⟩ : ∃ f : Fin len → α, ∀ i, ∃ c, d.K w (f i) c ∧ B (f i) ∧ w.cells? 0 (a.add (i.1 * d.sz)) d.sz = some c := ⟨fun i => (each2 i).choose, fun i => (each2 i).choose_spec⟩
    have hfl : (List.ofFn f).length = len := by simp
    refine ⟨List.ofFn f, ⟨some a, cap, by rw [hfl], by rw [hfl]; exact hl, ⟨rfl, by rw [hfl]; omega, fun _ => ⟨a, rfl, fun j p hj => ?_⟩⟩⟩, by rw [hfl]; omega, fun x hx => ?_⟩
    · have hj' : j < len := by
        have := (List.getElem?_eq_some_iff.1 hj).1
        simpa using this
      have hp : p = f ⟨j, hj'⟩ := by
        have := (List.getElem?_eq_some_iff.1 hj).2
        simpa using this.symm
      subst hp
      obtain ⟨c, hK, hb, hcs⟩ := hf ⟨j, hj'⟩
      refine ⟨c, d.K_len hK, hK, fun i u hu => ?_⟩
      unfold World.cells? at hcs
      rw [if_pos (Nat.zero_le _)] at hcs
      obtain ⟨hl1, hi⟩ := mapM_own _ _ hcs
      obtain ⟨j2, hj2, hcell⟩ := hi i u hu
      have hlt : i < d.sz := by
        have := (List.getElem?_eq_some_iff.1 hj2).1
        simpa using this
      rw [List.getElem?_range hlt] at hj2
      obtain rfl := Option.some.inj hj2
      rw [← hcell]
      congr 1
      exact (Addr.add_add _ _ _).symm
    · obtain ⟨i, rfl⟩ := (List.mem_ofFn).1 hx
      obtain ⟨c, hK, hb, hcs⟩ := hf i
      exact hb
end Go.Proofs.Ytgdboikoejodpaa.Opens


namespace Go.Proofs.Ytgdboikoejodpaa.OpenL
open Go Go.ChangeShapes Go.WideShapes Go.ChangeAt Go.RowKit Go.Proofs.YtgdboikoejodpaaW.PrintWords Go.Proofs.Ytgdboikoejodpaa.Opens Go.Proofs.Ytgdboikoejodpaa.Led Go.Proofs.Ytgdboikoejodpaa.In Go.Proofs.Ytgdboikoejodpaa.Clone
set_option linter.unusedVariables false

theorem arg_struct {H : Type} {enc : TypeId × Value → H} {P : Program} {w : World} {α : Type} {d : Kd α} {B : α → Prop} {t : TypeId} {fs : Array Field} {r : Reach} {b0 : Nat} {v : Value} {fuel : Nat} {y : DataW H × List MemPlace}
    (ho : Opens d B P t) (ht : P.underlying t = some (.struct fs)) (hok : Value.okWide P w r b0 t v) (h : DataW.trod enc P w 0 (fun _ => true) true fuel t v.cells.toList = some y) :
    ∃ x cs, v = .agg cs.toArray ∧ d.K w x cs ∧ B x := by
  simp only [Value.okWide, ht] at hok
  obtain ⟨xs, rfl, hn, -⟩ := hok
  obtain ⟨x, hK, hb⟩ := ho.of h
  exact ⟨x, xs.toList, by simp, hK, hb⟩

/-- A slice as an argument. -/
theorem arg_slice {H : Type} {enc : TypeId × Value → H} {P : Program} {w : World} {α : Type} {d : Kd α} {B : List α → Prop} {t e : TypeId} {r : Reach} {b0 : Nat} {v : Value} {fuel : Nat} {y : DataW H × List MemPlace}
    (ho : Opens (Kd.slice e d) B P t) (ht : P.underlying t = some (.slice e)) (hok : Value.okWide P w r b0 t v) (h : DataW.trod enc P w 0 (fun _ => true) true fuel t v.cells.toList = some y) :
    ∃ A c l, v = .slice A l.length c ∧ l.length ≤ c ∧ Kd.C d w A l.length l ∧ B l := by
  obtain ⟨A0, n0, c0, rfl⟩ := okWide_slice ht hok
  obtain ⟨l, ⟨A, c, e1, hc, hC⟩, hb⟩ := ho.of h
  have : A0 = A ∧ n0 = l.length ∧ c0 = c := by simpa [Value.cells] using e1
  obtain ⟨rfl, rfl, rfl⟩ := this
  exact ⟨A0, c0, l, rfl, hc, hC, hb⟩
def wf64 (n : Int) : Prop := (Lit.int .u64 n).wf = true
theorem wf64_bd {n : Int} (h : wf64 n) : 0 ≤ n ∧ n < 18446744073709551616 := by
  unfold wf64 at h
  simp [Lit.wf, IntKind.min, IntKind.max, IntKind.bits, IntKind.signed] at h
  omega
theorem wf8_bd {n : Int} (h : (Lit.int .u8 n).wf = true) : 0 ≤ n ∧ n < 256 := by
  simp [Lit.wf, IntKind.min, IntKind.max, IntKind.bits, IntKind.signed] at h
  omega

theorem wf16_bd {n : Int} (h : (Lit.int .u16 n).wf = true) : 0 ≤ n ∧ n < 65536 := by
  simp [Lit.wf, IntKind.min, IntKind.max, IntKind.bits, IntKind.signed] at h
  omega
theorem wfi_bd {n : Int} (h : (Lit.int .i64 n).wf = true) : -9223372036854775808 ≤ n ∧ n ≤ 9223372036854775807 := by
  simp [Lit.wf, IntKind.min, IntKind.max, IntKind.bits, IntKind.signed] at h
  omega
/-- Another kind reads the same cells. -/
theorem opens_to {α β : Type} {d : Kd α} {e : Kd β} {B : α → Prop} {C : β → Prop} {P : Program} {t : TypeId} (h : Opens d B P t) (hm : ∀ w x cs, d.K w x cs → B x → ∃ y, e.K w y cs ∧ C y) : Opens e C P t := by
  refine ⟨?_⟩
  intro H enc w fuel cs y hy
  obtain ⟨x, hK, hb⟩ := h.of hy
  exact hm w x cs hK hb

def BQ (s : Q) : Prop := wf64 s.lo ∧ wf64 s.hi
theorem opensQ : Opens kQ BQ Try.prog 35 := by
  have hu : Try.prog.underlying 35 = some (.struct _) := Try.underlying35
  have h : Opens (Kd.pair (Kd.int .u64) (Kd.int .u64)) (fun x => wf64 x.1 ∧ wf64 x.2) Try.prog 35 :=
    opens_struct hu (n := 1 + 1) (by kernel_rfl) (fields_cons (off := 0) rfl (by kernel_rfl) rfl (opens_int Try.underlying25) (fields_one (off := 0 + 1) rfl (by kernel_rfl) rfl (opens_int Try.underlying25)))
  refine opens_to h (fun w x cs hK hb => ?_)
  obtain ⟨c0, c1, rfl, h0, h1⟩ := hK
  exact ⟨⟨x.1, x.2⟩, by rw [h0, h1]; rfl, hb⟩
theorem opensSpans : Opens (Kd.slice 35 kQ) (fun l => l.length ≤ 9223372036854775807 ∧ ∀ x ∈ l, BQ x) Try.prog 36 :=
  opens_slice Try.underlying36 (by kernel_rfl) opensQ
theorem opensBytes : Opens (Kd.slice 5 (Kd.int .u8)) (fun l => l.length ≤ 9223372036854775807 ∧ ∀ x ∈ l, (Lit.int .u8 x).wf = true) Try.prog 70 :=
  opens_slice Try.underlying70 (by kernel_rfl) (opens_int Try.underlying5)
theorem opensF : Opens kR (fun _ => True) Try.prog 72 := by
  have hu : Try.prog.underlying 72 = some (.struct _) := Try.underlying72
  have h64 := opens_int Try.underlying25
  have h := opens_struct hu (n := 1 + (1 + (1 + (1 + (1 + (1 + (1 + 1))))))) (by kernel_rfl)
    (fields_cons (off := 0) rfl (by kernel_rfl) rfl h64 (fields_cons rfl (by kernel_rfl) rfl h64 (fields_cons rfl (by kernel_rfl) rfl h64 (fields_cons rfl (by kernel_rfl) rfl h64 (fields_cons rfl (by kernel_rfl) rfl h64
      (fields_cons rfl (by kernel_rfl) rfl (opens_bool Try.underlying4) (fields_cons rfl (by kernel_rfl) rfl opensBytes (fields_one rfl (by kernel_rfl) rfl opensSpans))))))))
  refine opens_to h (fun w x cs hK _ => ?_)
  obtain ⟨_, _, rfl, rfl, ⟨_, _, rfl, rfl, ⟨_, _, rfl, rfl, ⟨_, _, rfl, rfl, ⟨_, _, rfl, rfl, ⟨_, _, rfl, rfl, ⟨_, _, rfl, ⟨A6, c6, rfl, l6, g6⟩, ⟨A7, c7, rfl, l7, g7⟩⟩⟩⟩⟩⟩⟩⟩ := hK
  exact ⟨⟨x.1, x.2.1, x.2.2.1, x.2.2.2.1, x.2.2.2.2.1, x.2.2.2.2.2.1, A6, _, c6, A7, _, c7⟩, rfl, trivial⟩
theorem opensFrames : Opens (Kd.slice 72 kR) (fun l => l.length ≤ 9223372036854775807 ∧ ∀ x ∈ l, True) Try.prog 28 :=
  opens_slice Try.underlying28 (by kernel_rfl) opensF

/-- A packet that came in, and its frames. -/
structure P where
  pn : Int
  time : Int
  size : Int
  asks : Bool
  fr : List F
def P.tup (x : P) : Int × Int × Int × Bool × List F := (x.pn, x.time, x.size, x.asks, x.fr)
def kP : Kd P := Kd.iso (Kd.pair (Kd.int .u64) (Kd.pair (Kd.int .u64) (Kd.pair (Kd.int .u64) (Kd.pair Kd.bool (Kd.slice 72 kR))))) P.tup
def BP (x : P) : Prop := wf64 x.pn ∧ wf64 x.time ∧ wf64 x.size ∧ True ∧ (x.fr.length ≤ 9223372036854775807 ∧ ∀ f ∈ x.fr, True)
theorem kP_open {w : World} {x : P} {cs : List Value} (h : kP.K w x cs) : ∃ A c, cs = [.int .u64 x.pn, .int .u64 x.time, .int .u64 x.size, .bool x.asks, .slice A x.fr.length c] ∧ x.fr.length ≤ c ∧ kR.C w A x.fr.length x.fr := by
  obtain ⟨_, _, rfl, rfl, ⟨_, _, rfl, rfl, ⟨_, _, rfl, rfl, ⟨_, _, rfl, rfl, ⟨A, c, rfl, l, g⟩⟩⟩⟩⟩ := h
  exact ⟨A, c, rfl, l, g⟩
theorem opensP : Opens kP BP Try.prog 30 := by
  have hu : Try.prog.underlying 30 = some (.struct _) := Try.underlying30
  have h64 := opens_int Try.underlying25
  have h := opens_struct hu (n := 1 + (1 + (1 + (1 + 1)))) (by kernel_rfl)
    (fields_cons (off := 0) rfl (by kernel_rfl) rfl h64 (fields_cons rfl (by kernel_rfl) rfl h64 (fields_cons rfl (by kernel_rfl) rfl h64 (fields_cons rfl (by kernel_rfl) rfl (opens_bool Try.underlying4) (fields_one rfl (by kernel_rfl) rfl opensFrames)))))
  exact opens_iso P.tup (fun x => ⟨x.1, x.2.1, x.2.2.1, x.2.2.2.1, x.2.2.2.2⟩) (fun _ => rfl) h
end Go.Proofs.Ytgdboikoejodpaa.OpenL
