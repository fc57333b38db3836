/- The law FrameBack, its plain part: frames one behind the other are parsed as they were. -/
import Derived.Test.YtmccghadgihbpaaFrameAcks
import Derived.Test.YtmccghadgihbpaaPFrameBackx3
import Derived.Deep.CutBlock
import Derived.RegionTactic
import Derived.Outline
namespace Go.Proofs.Ytmccghadgihbpaa.FbPlain
open Go Go.RowKit Go.Proofs.Ytmccghadgihbpaa.PFrameBack Go.Proofs.YtmccghadgihbpaaW.PrintWords Go.Proofs.YtmccghadgihbpaaW.PrintLast Go.Proofs.YtmccghadgihbpaaW.PrintMore Go.Proofs.Ytmccghadgihbpaa.VPut Go.Proofs.Ytmccghadgihbpaa.VPlain Go.Proofs.Ytmccghadgihbpaa.Reader Go.Proofs.Ytmccghadgihbpaa.OpenFrame Go.Proofs.Ytmccghadgihbpaa.ParseS Go.Proofs.Ytmccghadgihbpaa.Parse Go.Proofs.Ytmccghadgihbpaa.Back Go.Proofs.Ytmccghadgihbpaa.CutF Go.Proofs.Ytmccghadgihbpaa.FrameCutWalk Go.Proofs.Ytmccghadgihbpaa.FrameAcksWalk
set_option linter.unusedVariables false

/-- Frames with their numbers; their bytes; those that are no paddings. -/
abbrev Fs := List (S58 × List Int)
def bytesF (ys : Fs) : List Int := ys.flatMap fun y => flat y.2 ++ y.1.f6
def keptOf (ys : Fs) : List S58 := (ys.filter fun y => y.1.f0 != 0).map fun y => normF y.1
def GoodF (ys : Fs) : Prop := ∀ y ∈ ys, B58 y.1 ∧ Back.shape y.1 y.2 ∧ ∀ n ∈ y.2, sm n

theorem norm_kind (x : S58) : (normF x).f0 = x.f0 := by
  unfold normF
  repeat' split
  all_goals rfl

theorem parse_frames : ∀ (ys : Fs) (out : List S58) (m : Nat), GoodF ys → out.length + (keptOf ys).length ≤ 64 → (bytesF ys).length ≤ m → parseL m (bytesF ys) out = (out ++ keptOf ys, 0)
  | [], out, m, hg, hl, hm => by
    cases m <;> simp [bytesF, keptOf, parseL]
  | y :: ys, out, m, hg, hl, hm => by
    obtain ⟨hB, hsh, hsm⟩ := hg y (by simp)
    have e : bytesF (y :: ys) = flat y.2 ++ y.1.f6 ++ bytesF ys := by simp [bytesF]
    rw [e] at hm ⊢
    have ho := one_shape hB hsh hsm (bytesF ys)
    have hlen : 0 < (flat y.2 ++ y.1.f6).length := by
      obtain ⟨h1, h2⟩ := shape_len hsh
      cases hy : y.2 with
      | nil => exact absurd hy h2
      | cons n r =>
        have := vbytes_pos n
        simp only [flat, List.length_append]
        omega
    rw [List.length_append] at hm
    obtain ⟨m, rfl⟩ : ∃ q, m = q + 1 := ⟨m - 1, by omega⟩
    unfold parseL
    rw [if_neg (fun h => by have := congrArg List.length h; rw [List.length_append] at this; simp only [List.length_nil] at this; omega), ho]
    simp only
    rw [if_neg (by simp), norm_kind]
    have hgs : GoodF ys := fun z hz => hg z (by simp [hz])
    by_cases h0 : y.1.f0 = 0
    · have ek : keptOf (y :: ys) = keptOf ys := by simp [keptOf, h0]
      rw [if_pos h0, ek]
      rw [ek] at hl
      exact parse_frames ys out m hgs hl (by omega)
    · have ek : keptOf (y :: ys) = normF y.1 :: keptOf ys := by simp [keptOf, h0]
      rw [ek] at hl ⊢
      simp only [List.length_cons] at hl
      rw [if_neg h0, if_neg (by omega)]
      rw [parse_frames ys _ m hgs (by rw [List.length_append]; simp only [List.length_cons, List.length_nil]; omega) (by omega)]
      simp

theorem bytes_snoc (ys : Fs) (y : S58 × List Int) : bytesF (ys ++ [y]) = bytesF ys ++ (flat y.2 ++ y.1.f6) := by simp [bytesF]
theorem kept_snoc0 (ys : Fs) (y : S58 × List Int) (h : y.1.f0 = 0) : keptOf (ys ++ [y]) = keptOf ys := by simp [keptOf, h]
theorem kept_snoc (ys : Fs) (y : S58 × List Int) (h : y.1.f0 ≠ 0) : keptOf (ys ++ [y]) = keptOf ys ++ [normF y.1] := by simp [keptOf, h]
theorem good_snoc {ys : Fs} {y : S58 × List Int} (h : GoodF ys) (hy : B58 y.1 ∧ Back.shape y.1 y.2 ∧ ∀ n ∈ y.2, sm n) : GoodF (ys ++ [y]) := by
  intro z hz
  rcases List.mem_append.1 hz with h1 | h1
  · exact h z h1
  · have : z = y := by simpa using h1
    subst this
    exact hy
theorem good_fit {ys : Fs} (h : GoodF ys) : ∀ v ∈ bytesF ys, 0 ≤ v ∧ v < 256 := by
  intro v hv
  unfold bytesF at hv
  rw [List.mem_flatMap] at hv
  obtain ⟨y, hy, hv⟩ := hv
  exact bytes_fit (h y hy).1 (h y hy).2.2 v hv
theorem parse_good {ys : Fs} (hg : GoodF ys) (hl : (keptOf ys).length ≤ 64) : parseR (bytesF ys) = (keptOf ys, 0) := by
  unfold parseR
  rw [parse_frames ys [] _ hg (by simpa using hl) (Nat.le_refl _)]
  simp

theorem rd_in58 {l : List S58} {i : Nat} (h : i < l.length) : rd_T58 l (i : Int) = l[i] := by
  unfold rd_T58
  simp [List.getD_eq_getElem?_getD, List.getElem?_eq_getElem h]
theorem same_frame (x : S58) (k : Nat) (hx : x.f7.length < k) (hl : x.f7.length ≤ 9223372036854775807) : skiffref10_SameFrame.f k x.f0 x.f1 x.f2 x.f3 x.f4 x.f5 x.f6 x.f7 x.f0 x.f1 x.f2 x.f3 x.f4 x.f5 x.f6 x.f7 = some true := by
  unfold skiffref10_SameFrame.f
  rw [if_pos rfl, if_pos rfl, if_pos rfl, if_pos rfl, if_pos rfl, if_neg (by simp), if_pos rfl]
  have h : skiffref10_SameSpans.f k x.f7 x.f7 = some true := by
    unfold skiffref10_SameSpans.f
    rw [if_pos rfl]
    exact same_l0 x.f7 hl x.f7.length k 0 (by omega) (by omega) hx
  rw [h]
  rfl
theorem sames_l0 (l : List S58) (M : Nat) (hl : l.length ≤ 1000000) (hM : ∀ x ∈ l, x.f7.length ≤ M) (hM2 : M ≤ 1000000) : ∀ (m k i : Nat), l.length - i = m → i ≤ l.length → m + M + 1 < k → skiffref10_SameFrames.l0 k l l (i : Int) = some true := by
  intro m
  induction m with
  | zero =>
    intro k i hm hi hk
    obtain ⟨k, rfl⟩ : ∃ q, k = q + 1 := ⟨k - 1, by omega⟩
    simp only [skiffref10_SameFrames.l0]
    rw [if_neg (by omega)]
  | succ m ih =>
    intro k i hm hi hk
    obtain ⟨k, rfl⟩ : ∃ q, k = q + 1 := ⟨k - 1, by omega⟩
    have hlt : i < l.length := by omega
    have e1 : wrap64 ((i : Int) + 1) = ((i + 1 : Nat) : Int) := by unfold wrap64; omega
    simp only [skiffref10_SameFrames.l0]
    rw [if_pos (by omega), if_pos (by omega), if_pos (by omega), e1, rd_in58 hlt]
    have hx := hM l[i] (List.getElem_mem hlt)
    rw [same_frame l[i] k (by omega) (by omega)]
    simp only [Option.bind_some, if_true]
    exact ih k (i + 1) (by omega) (by omega) (by omega)
theorem sames_calls {w : World} {A0 A1 : Option Addr} {c0 c1 : Nat} {l : List S58} (M : Nat) (hM : ∀ x ∈ l, x.f7.length ≤ M) (hM2 : M ≤ 1000000) (hl : l.length ≤ 1000000) (h0 : Kd.C k58 w A0 l.length l) (hc0 : l.length ≤ c0) (h1 : Kd.C k58 w A1 l.length l) (hc1 : l.length ≤ c1) :
    Calls Try.prog 45 #[.slice A0 l.length c0, .slice A1 l.length c1] w fun e w' => e = .returned (.bool true) ∧ Below w.heap.size w w' := by
  refine (skiffref10_SameFrames.calls (l.length + M + 2) A0 c0 l A1 c1 l true w h0 hc0 h1 hc1 ?_).mono ?_
  · unfold skiffref10_SameFrames.f
    rw [if_pos rfl]
    exact sames_l0 l M hl hM hM2 l.length _ 0 (by omega) (by omega) (by omega)
  · rintro e w' ⟨rfl, h⟩
    exact ⟨rfl, h⟩
end Go.Proofs.Ytmccghadgihbpaa.FbPlain


namespace Go.Proofs.Ytmccghadgihbpaa.FrameBackWalk
open Go Go.RowKit Go.Proofs.Ytmccghadgihbpaa.PFrameBack Go.Proofs.YtmccghadgihbpaaW.PrintWords Go.Proofs.YtmccghadgihbpaaW.PrintLast Go.Proofs.YtmccghadgihbpaaW.PrintMore Go.Proofs.Ytmccghadgihbpaa.Keep Go.Proofs.Ytmccghadgihbpaa.Mem Go.Proofs.Ytmccghadgihbpaa.VPut Go.Proofs.Ytmccghadgihbpaa.VPlain Go.Proofs.Ytmccghadgihbpaa.With Go.Proofs.Ytmccghadgihbpaa.Spans Go.Proofs.Ytmccghadgihbpaa.Encode Go.Proofs.Ytmccghadgihbpaa.EncAck Go.Proofs.Ytmccghadgihbpaa.MemU Go.Proofs.Ytmccghadgihbpaa.Frames Go.Proofs.Ytmccghadgihbpaa.Awake11 Go.Proofs.Ytmccghadgihbpaa.FrameEncodesWalk Go.Proofs.Ytmccghadgihbpaa.OpenFrame Go.Proofs.Ytmccghadgihbpaa.ParseS Go.Proofs.Ytmccghadgihbpaa.Parse Go.Proofs.Ytmccghadgihbpaa.Back Go.Proofs.Ytmccghadgihbpaa.CutF Go.Proofs.Ytmccghadgihbpaa.FrameCutWalk Go.Proofs.Ytmccghadgihbpaa.FrameAcksWalk Go.Proofs.Ytmccghadgihbpaa.FbPlain
set_option linter.unusedVariables false
set_option linter.unusedSimpArgs false

/-- Frames whose rows lie in a world that was: they are read there. -/
def kF (W0 : World) : Kd S58 where
  sz := 8
  E := []
  K := fun _ x cs => k58.K W0 x cs
  M := fun _ _ _ x cs => k58.K W0 x cs
  K_len := fun h => k58.K_len h
  K_one := fun h => k58.K_one h
  K_below := fun _ h => h
  K_of_M := fun h => h
  M_mono := fun _ h => h
  M_bound := fun h => h
  M_move := fun _ h => h
  M_lower := fun _ h => h
theorem kF_C {W0 w : World} {A : Option Addr} {n : Nat} {xs : List S58} (h : Kd.C (kF W0) w A n xs) (hb : Below W0.heap.size W0 w) : Kd.C k58 w A n xs :=
  ReadsRow.imp_ h (Below.refl _ _) (fun _ _ hp => k58.K_below hb hp)

/-- 'append(l, g)', frames that share their rows. -/
theorem appF {ops : Array Oper} {rest : List Oper} {o : Oper} {a : Act} {Q : Exit → Act → World → Prop} {W w0 W0 : World} (base : Nat) (hgd : o.guard = none) (s x : Operand) (ho : o.op = .call { callee := .builtin .append, args := #[s, x], argTypes := #[60, 60] })
    {v : Value} {xs : List S58} (q : S58) {A6 A7 : Option Addr} {c6 c7 : Nat} (HO : (kF W0).R 58 W base (fun _ => True) v xs) (hs : a.eval s = v) (hx : a.eval x = .slice (some ⟨W.heap.size, 0, none⟩) 1 1)
    (l6 : q.f6.length ≤ c6) (g6 : (Kd.int .u8).C W0 A6 q.f6.length q.f6) (l7 : q.f7.length ≤ c7) (g7 : k84.C W0 A7 q.f7.length q.f7) (hB : Below base w0 W) (hbase : base ≤ W.heap.size)
    (hl : xs.length + 1 ≤ 1000000)
    (h : ∀ v1 w1, (kF W0).R 58 w1 base (fun _ => True) v1 (xs ++ [q]) → Below base w0 w1 → W.grownBy w1 v.ownBlock → wpList Try.prog ops Q rest (a.put o.dst v1) w1) :
    wpList Try.prog ops Q (o :: rest) a (W.alloc (.cells #[.int .u64 q.f0, .int .u64 q.f1, .int .u64 q.f2, .int .u64 q.f3, .int .u64 q.f4, .bool q.f5, .slice A6 q.f6.length c6, .slice A7 q.f7.length c7] 58)) :=
  Kd.R_append (kF W0) (w0 := w0) base hgd s x 60 58 (.agg #[.int .u64 0, .int .u64 0, .int .u64 0, .int .u64 0, .int .u64 0, .bool false, .slice none 0 0, .slice none 0 0]) 96 ho Try.underlying60 info58 rfl (show 0 < 8 by decide) (by decide) v xs q [.int .u64 q.f0, .int .u64 q.f1, .int .u64 q.f2, .int .u64 q.f3, .int .u64 q.f4, .bool q.f5, .slice A6 q.f6.length c6, .slice A7 q.f7.length c7] (fun _ => True) (fun _ => False) hs hx
    (k58_mk W0 q l6 g6 l7 g7) (fun _ hk => hk.elim) (fun _ _ => trivial) HO hB hbase (by omega) (fun v1 w1 R B G _ => h v1 w1 R B G)

theorem rows_ne {α : Type} {d : Kd α} {w : World} {b1 b2 : Nat} {ok : Nat → Prop} {va vw : Value} {la : List Int} {lw : List α} (h1 : RB w b1 va la) (h2 : d.R 58 w b2 ok vw lw) (kk : Nat) (e1 : va.ownBlock = some kk) (e2 : vw.ownBlock = some kk) : False := by
  obtain ⟨-, i1, o1, -⟩ := h1
  obtain ⟨-, i2, o2, -⟩ := h2
  obtain ⟨c1, hc1⟩ := own_typed o1 kk e1
  obtain ⟨c2, hc2⟩ := own_typed o2 kk e2
  rw [hc1] at hc2
  injection hc2 with hc2
  injection hc2 with _ h3
  exact absurd h3 (by decide)
theorem box_ne {w : World} {b1 fb : Nat} {va : Value} {la : List Int} {cs : Array Value} (h1 : RB w b1 va la) (h2 : w.heap[fb]? = some (.cells cs 58 (0, 0))) (e1 : va.ownBlock = some fb) : False := by
  obtain ⟨-, i1, o1, -⟩ := h1
  obtain ⟨c1, hc1⟩ := own_typed o1 fb e1
  rw [hc1] at h2
  injection h2 with hc2
  injection hc2 with _ h3
  exact absurd h3 (by decide)

theorem kp_drew {p : Nat} {w w' : World} (h : Kp p w w') : Kp p w w'.drew := ⟨h.os, h.tape, h.output, h.size, h.block⟩
theorem kp_grown {p : Nat} {w w' : World} (h : Kp p w w') : w.grownBy w' (some p) := ⟨h.os, h.tape, h.output, h.size, fun k hk hne => h.block k hk (fun e => hne (by rw [e]))⟩
/-- The spans of a frame as far as its kind has it. -/
def n7 (x : S58) (A7 : Option Addr) (c7 : Nat) : Value := if x.f0 = 2 then .slice A7 x.f7.length c7 else .slice none 0 0
def normBox (x : S58) (A6 A7 : Option Addr) (c6 c7 : Nat) : Array Value := #[.int .u64 (normF x).f0, .int .u64 (normF x).f1, .int .u64 (normF x).f2, .int .u64 (normF x).f3, .int .u64 (normF x).f4, .bool (normF x).f5, .slice A6 x.f6.length c6, n7 x A7 c7]
theorem norm_data (x : S58) : (normF x).f6 = x.f6 := by
  unfold normF
  repeat' split
  all_goals rfl
theorem norm_acks (x : S58) : (normF x).f7 = if x.f0 = 2 then x.f7 else [] := by
  unfold normF
  by_cases h : x.f0 = 2
  · rw [if_pos h, if_pos h]
  · rw [if_neg h, if_neg h]
    repeat' split
    all_goals rfl
theorem norm_acks_len (x : S58) : (normF x).f7.length ≤ x.f7.length := by
  rw [norm_acks]
  split
  · exact Nat.le_refl _
  · exact Nat.zero_le _
theorem n7_slice (x : S58) (A7 : Option Addr) (c7 : Nat) : ∃ A c, n7 x A7 c7 = .slice A (normF x).f7.length c ∧ ((normF x).f7.length ≤ c ∨ c7 < x.f7.length) ∧ ∀ W0, k84.C W0 A7 x.f7.length x.f7 → k84.C W0 A (normF x).f7.length (normF x).f7 := by
  unfold n7
  rw [norm_acks]
  by_cases h : x.f0 = 2
  · rw [if_pos h, if_pos h]
    exact ⟨A7, c7, rfl, by omega, fun _ hc => hc⟩
  · rw [if_neg h, if_neg h]
    exact ⟨none, 0, rfl, by simp, fun _ _ => Kd.C_nil _ _⟩

set_option maxHeartbeats 8000000 in
set_option maxRecDepth 100000 in
theorem walk {w : World} {A : Option Addr} {c : Nat} {l : List S58} (hC : Kd.C k58 w A l.length l) (hc : l.length ≤ c) (hB : ∀ x ∈ l, B58 x) :
    Calls Try.prog 14 #[.slice A l.length c] w fun e w' => e = .returned (.bool true) ∧ Below w.heap.size w w' := by
  have hl0 : l.length ≤ 9223372036854775807 := hC.2.1
  have HC := Lib.hid hC
  have HB := Lib.hid hB
  clear hC hB
  go_enter Try.func14, Try.ntmps14
  go_wp2_with fail
  refine (awake w).mono ?_
  rintro e w2 ⟨rfl, B2⟩
  have HC2 := Lib.hid (Kd.C_below HC.out B2)
  have HB2 := Lib.hid B2
  clear B2 HC
  have GC := great_calls HC2.out hc
  cases hg : greatB l with
  | true =>
    rw [hg] at GC
    have HGC := Lib.hid GC
    clear GC hg
    go_wp2_with fail
    refine HGC.out.mono ?_
    rintro e w3 ⟨rfl, B3⟩
    go_wp2_with fail
    go_ret
    exact ⟨rfl, HB2.out.trans (B3.mono HB2.out.size)⟩
  | false =>
    rw [hg] at GC
    have HGC := Lib.hid GC
    have hl1 : l.length ≤ 100 := by unfold greatB at hg; rw [Bool.or_eq_false_iff] at hg; have := hg.2; simp at this; omega
    have hfr : ∀ x ∈ l, x.f6.length ≤ 3000 ∧ x.f7.length ≤ 100 := by
      intro x hx
      unfold greatB at hg
      rw [Bool.or_eq_false_iff] at hg
      have := List.any_eq_false.1 hg.1 x hx
      unfold greatF at this
      simp at this
      omega
    have HFR := Lib.hid hfr
    clear GC hg hfr
    go_wp2_with fail
    refine HGC.out.mono ?_
    rintro e w3 ⟨rfl, B3⟩
    have HC3 := Lib.hid (Kd.C_below HC2.out B3)
    have HB3 := Lib.hid (HB2.out.trans (B3.mono HB2.out.size))
    clear B3 HC2 HGC HB2
    go_wp2_with fail
    go_loopw [3, 4, 18] (fun va vw i wr => ∃ (k : Nat) (ys : Fs), k ≤ l.length ∧ i = .int .i64 (k : Int) ∧ ys.length ≤ k ∧ (bytesF ys).length ≤ 4000 * k ∧ (keptOf ys).length ≤ 64 ∧ Hid (GoodF ys) ∧ Hid (∀ x ∈ keptOf ys, x.f7.length ≤ 100) ∧ Hid (RB wr w3.heap.size va (bytesF ys)) ∧ Hid ((kF w3).R 58 wr w3.heap.size (fun _ => True) vw (keptOf ys)) ∧ Hid (Below w3.heap.size w3 wr)) (fun _ _ i _ => l.length - (intOf i).toNat)
    case atStart => exact ⟨0, [], Nat.zero_le _, rfl, by simp, by simp [bytesF], by simp [keptOf], Lib.hid (fun y hy => by cases hy), Lib.hid (fun x hx => by simp [keptOf] at hx), Lib.hid (Kd.R_nil _ _ _ _ _), Lib.hid (Kd.R_nil _ _ _ _ _), Lib.hid (Below.refl _ _)⟩
    case round =>
      obtain ⟨k, ys, hkl, rfl, hyk, hbk, hk64, HG, HM, HA, HW, HBw⟩ := hrel
      obtain ⟨Aw, cw, ew⟩ : ∃ A c, u4 = Value.slice A (keptOf ys).length c := by
        obtain ⟨A, c, e, -, -⟩ := Kd.R_reads HW.out
        exact ⟨A, c, e⟩
      subst ew
      by_cases hlt : k < l.length
      · obtain ⟨ad, A6, c6, A7, c7, ead, k0, k1, k2, k3, k4, k5, k6, k7, l6, g6, l7, g7⟩ := at_T58 HC3.out (k : Int) (by omega) (by omega)
        subst ead
        rw [rd_in58 hlt, Int.toNat_natCast] at k0 k1 k2 k3 k4 k5 k6 k7
        rw [rd_in58 hlt] at l6 g6 l7 g7
        have hfx := HFR.out l[k] (List.getElem_mem hlt)
        have hbx := HB.out l[k] (List.getElem_mem hlt)
        generalize l[k] = x at *
        have k0 := pw_cell_below HBw.out k0; have k1 := pw_cell_below HBw.out k1; have k2 := pw_cell_below HBw.out k2; have k3 := pw_cell_below HBw.out k3
        have k4 := pw_cell_below HBw.out k4; have k5 := pw_cell_below HBw.out k5; have k6 := pw_cell_below HBw.out k6; have k7 := pw_cell_below HBw.out k7
        obtain ⟨hx6, hx7⟩ := hfx
        have HG6 := Lib.hid g6
        have HG7 := Lib.hid g7
        have HBX := Lib.hid hbx
        clear g6 g7 hbx
        go_upto_region 10 with fail
        clear k0 k1 k2 k3 k4 k5 k6 k7
        have hkf := heap_alloc_new wr (.cells #[.int .u64 x.f0, .int .u64 x.f1, .int .u64 x.f2, .int .u64 x.f3, .int .u64 x.f4, .bool x.f5, .slice A6 x.f6.length c6, .slice A7 x.f7.length c7] 58)
        have BF := (Below.refl wr.heap.size wr).alloc (Nat.le_refl _) (.cells #[.int .u64 x.f0, .int .u64 x.f1, .int .u64 x.f2, .int .u64 x.f3, .int .u64 x.f4, .bool x.f5, .slice A6 x.f6.length c6, .slice A7 x.f7.length c7] 58)
        obtain ⟨w4, hw4⟩ : ∃ w4 : World, wr.alloc (.cells #[.int .u64 x.f0, .int .u64 x.f1, .int .u64 x.f2, .int .u64 x.f3, .int .u64 x.f4, .bool x.f5, .slice A6 x.f6.length c6, .slice A7 x.f7.length c7] 58) = w4 := ⟨_, rfl⟩
        rw [hw4] at hkf BF ⊢
        obtain ⟨fb, hfb⟩ : ∃ fb, wr.heap.size = fb := ⟨_, rfl⟩
        rw [hfb] at hkf ⊢
        have hfb1 : w3.heap.size ≤ fb := by rw [← hfb]; exact HBw.out.size
        have BW4 := HBw.out.trans (BF.mono HBw.out.size)
        have EN := enc_any (w := w4) x.f0 x.f1 x.f2 x.f3 x.f4 x.f5 (wf64_bd HBX.out.1) (wf64_bd HBX.out.2.1) (wf64_bd HBX.out.2.2.1) (wf64_bd HBX.out.2.2.2.1) (wf64_bd HBX.out.2.2.2.2.1) (Kd.C_below HG6.out BW4) l6 hx6 (Kd.C_below HG7.out BW4) l7 (B58_acks HBX.out) (by omega)
        have HKF := Lib.hid hkf
        have HA4 := Lib.hid (Kd.R_below HA.out BF)
        have HW4 := Lib.hid (Kd.R_below HW.out BF)
        have HB4 := Lib.hid BW4
        clear hw4 hkf BF BW4 HA HW HBw hfb
        obtain ⟨r, hr⟩ : ∃ r, encF okS ackOf ⟨x.f0, x.f1, x.f2, x.f3, x.f4, x.f5, x.f6, x.f7⟩ = r := ⟨_, rfl⟩
        obtain ⟨bb, r2⟩ := r
        rw [hr] at EN
        have HR := Lib.hid hr
        have HEN := Lib.hid EN
        clear hr EN
        obtain ⟨k0, k1, k2, k3, k4, k5, k6, k7⟩ := Parse.cells8b HKF.out
        by_cases hz : r2 = 0
        · subst hz
          obtain ⟨nl, hsh, hsm, hbb⟩ := enc_shape HBX.out HR.out
          have hbl := bytes_len hsh hx6
          rw [← hbb] at hbl
          have HSH := Lib.hid hsh
          have HSM := Lib.hid hsm
          have HBB := Lib.hid hbb
          obtain ⟨hbl0, hbl1⟩ := hbl
          clear hsh hsm hbb HR
          go_wp2_with fail
          clear k0 k1 k2 k3 k4 k5 k6 k7
          refine HEN.out.mono ?_
          rintro e w5 ⟨v5, rfl, R5, B5⟩
          obtain ⟨A5, c5, e5, hc5, hC5, -⟩ := RB.read R5
          subst e5
          have HKF5 := Lib.hid (blk_below HKF.out B5)
          have HA5 := Lib.hid (Kd.R_below HA4.out B5)
          have HW5 := Lib.hid (Kd.R_below HW4.out B5)
          have HB5 := Lib.hid (HB4.out.trans (B5.mono HB4.out.size))
          have HC5 := Lib.hid hC5
          clear R5 B5 hC5 HEN HA4 HW4 HB4 HKF
          by_cases h64 : (keptOf ys).length = 64
          · have t64 : (((keptOf ys).length : Int) == 64) = true := by simp [h64]
            have H64 := Lib.hid h64
            clear h64
            go_wp2_with fail
            go_roundw
            case rel => exact ⟨k + 1, ys, by omega, by go_num, by omega, by omega, hk64, HG, HM, HA5, HW5, HB5⟩
            case measure => simp [intOf]; omega
          · have t64 : (((keptOf ys).length : Int) == 64) = false := by simp; omega
            have hk63 : (keptOf ys).length + 1 ≤ 64 := by omega
            clear h64
            obtain ⟨k0, k1, k2, k3, k4, k5, k6, k7⟩ := Parse.cells8b HKF5.out
            go_upto_region 13 with (first
              | ((with_reducible refine gate_builtin (b := .append) (xs := #[.tmp 34, .tmp 35]) rfl ?_); refine appB (w0 := w3) w3.heap.size rfl (.tmp 34) (.tmp 35) rfl (A := A5) (ys := bb) HA5.out rfl rfl rfl HC5.out HB5.out HB5.out.size (by omega) ?_; intro v6 w6 R6 B6 G6 N6))
            clear k0 k1 k2 k3 k4 k5 k6 k7
            have hne1 : ∀ kk, u3.ownBlock = some kk → some kk ≠ (Value.slice Aw (keptOf ys).length cw).ownBlock := fun kk h1 h2 => rows_ne HA5.out HW5.out kk h1 h2.symm
            have hne2 : some fb ≠ u3.ownBlock := fun h => box_ne HA5.out HKF5.out h.symm
            have HKF6 := Lib.hid (grown_blk G6 HKF5.out hne2)
            have HW6 := Lib.hid (Kd.R_grown2 HW5.out rfl G6 hne1)
            have HA6 := Lib.hid R6
            have HB6 := Lib.hid B6
            have hwo := fun kk hkk => (R_block HW6.out kk hkk).2
            have HWO := Lib.hid hwo
            clear hwo R6 B6 G6 N6 hne1 hne2 HA5 HW5 HB5 HKF5 HC5
            obtain ⟨k0, k1, k2, k3, k4, k5, k6, k7⟩ := Parse.cells8b HKF6.out
            go_upto_region 14 with fail
            clear k0 k1 k2 k3 k4 k5 k6 k7
            have hkg := heap_alloc_new w6 (.cells #[.int .u64 x.f0, .int .u64 0, .int .u64 0, .int .u64 0, .int .u64 0, .bool false, .slice A6 x.f6.length c6, .slice none 0 0] 58)
            have BG := (Below.refl w6.heap.size w6).alloc (Nat.le_refl _) (.cells #[.int .u64 x.f0, .int .u64 0, .int .u64 0, .int .u64 0, .int .u64 0, .bool false, .slice A6 x.f6.length c6, .slice none 0 0] 58)
            obtain ⟨w7, hw7⟩ : ∃ w7 : World, w6.alloc (.cells #[.int .u64 x.f0, .int .u64 0, .int .u64 0, .int .u64 0, .int .u64 0, .bool false, .slice A6 x.f6.length c6, .slice none 0 0] 58) = w7 := ⟨_, rfl⟩
            rw [hw7] at hkg BG ⊢
            obtain ⟨gb, hgb⟩ : ∃ gb, w6.heap.size = gb := ⟨_, rfl⟩
            have hfg : fb < gb := by rw [← hgb]; exact blk_lt HKF6.out
            rw [hgb] at hkg ⊢
            have hg3 : w3.heap.size ≤ gb := by rw [← hgb]; exact HB6.out.size
            have HKG := Lib.hid hkg
            have HKF7 := Lib.hid (blk_below HKF6.out BG)
            have HA7 := Lib.hid (Kd.R_below HA6.out BG)
            have HW7 := Lib.hid (Kd.R_below HW6.out BG)
            have HB7 := Lib.hid (HB6.out.trans (BG.mono HB6.out.size))
            have hgs : gb < w7.heap.size := blk_lt hkg
            rw [hgb] at HWO
            clear hw7 hkg BG HKF6 HA6 HW6 HB6
            have HG2 := Lib.hid (good_snoc HG.out (y := (x, nl)) ⟨HBX.out, HSH.out, HSM.out⟩)
            have hb2 : bytesF (ys ++ [(x, nl)]) = bytesF ys ++ bb := by rw [bytes_snoc, HBB.out]
            have HB2 := Lib.hid hb2
            have hbl2 : (bytesF (ys ++ [(x, nl)])).length ≤ 4000 * (k + 1) := by rw [hb2, List.length_append]; omega
            have hyl2 : (ys ++ [(x, nl)]).length ≤ k + 1 := by rw [List.length_append]; simp only [List.length_cons, List.length_nil]; omega
            clear hb2
            obtain ⟨k0, k1, k2, k3, k4, k5, k6, k7⟩ := Parse.cells8b HKF7.out
            by_cases hz0 : x.f0 = 0
            · have hkk := kept_snoc0 ys (x, nl) hz0
              have HKK := Lib.hid hkk
              have t0 : (x.f0 == 0) = true := by simp [hz0]
              clear hkk hz0
              go_wp2_with fail
              clear k0 k1 k2 k3 k4 k5 k6 k7
              go_roundw
              case rel => exact ⟨k + 1, ys ++ [(x, nl)], by omega, by go_num, hyl2, hbl2, by rw [HKK.out]; exact hk64, HG2, Lib.hid (by rw [HKK.out]; exact HM.out), Lib.hid (by rw [HB2.out]; exact HA7.out), Lib.hid (by rw [HKK.out]; exact HW7.out), HB7⟩
              case measure => simp [intOf]; omega
            · have t0 : (x.f0 == 0) = false := by simp [hz0]
              go_upto_block 2 with fail
              go_cut [18] from 44 to 107 (fun v18 wc => v18 = .int .i64 (k : Int) ∧ Hid (wc.heap[gb]? = some (.cells (normBox x A6 A7 c6 c7) 58 (0, 0))) ∧ Hid (Kp gb w7 wc))
              case first =>
                by_cases hk2 : x.f0 = 2
                · have hk := hk2
                  clear hk2
                  have hn : normBox x A6 A7 c6 c7 = #[.int .u64 x.f0, .int .u64 0, .int .u64 0, .int .u64 x.f3, .int .u64 0, .bool false, .slice A6 x.f6.length c6, .slice A7 x.f7.length c7] := by unfold normBox n7 normF; simp [hk]
                  have HN := Lib.hid hn
                  have t2 : (x.f0 == 2) = true := by simp [hk]
                  clear hn hk
                  obtain ⟨j0, j1, j2, j3, j4, j5, j6, j7⟩ := Parse.cells8b HKG.out
                  have z7 := blk_frozen HKG.out 7
                  have z3 := blk_frozen HKG.out 3
                  go_upto_region 17 with fail
                  go_region
                  go_wp2_with fail
                  go_meet
                  case rel => exact ⟨rfl, Lib.hid (by rw [HN.out]; have b := (blk_drew (blk_set (blk_set HKG.out 7 (.slice A7 x.f7.length c7)) 3 (.int .u64 x.f3))); simpa using b), Lib.hid (kp_drew (((Kp.refl gb w7).set 7 (.slice A7 x.f7.length c7)).set 3 (.int .u64 x.f3)))⟩
                by_cases hk4 : x.f0 = 4
                · have hk := hk4
                  clear hk4
                  have hn : normBox x A6 A7 c6 c7 = #[.int .u64 x.f0, .int .u64 x.f1, .int .u64 0, .int .u64 x.f3, .int .u64 x.f4, .bool false, .slice A6 x.f6.length c6, .slice none 0 0] := by unfold normBox n7 normF; simp [hk]
                  have HN := Lib.hid hn
                  have t2 : (x.f0 == 2) = false := by simp [hk]
                  have t4 : (x.f0 == 4) = true := by simp [hk]
                  clear hn hk
                  obtain ⟨j0, j1, j2, j3, j4, j5, j6, j7⟩ := Parse.cells8b HKG.out
                  have z1 := blk_frozen HKG.out 1
                  have z4 := blk_frozen HKG.out 4
                  have z3 := blk_frozen HKG.out 3
                  go_upto_region 19 with fail
                  go_region
                  go_wp2_with fail
                  go_meet
                  case rel => exact ⟨rfl, Lib.hid (by rw [HN.out]; have b := (blk_drew (blk_set (blk_set (blk_set HKG.out 1 (.int .u64 x.f1)) 4 (.int .u64 x.f4)) 3 (.int .u64 x.f3))); simpa using b), Lib.hid (kp_drew ((((Kp.refl gb w7).set 1 (.int .u64 x.f1)).set 4 (.int .u64 x.f4)).set 3 (.int .u64 x.f3)))⟩
                by_cases hk5 : x.f0 = 5
                · have hk := hk5
                  clear hk5
                  have hn : normBox x A6 A7 c6 c7 = #[.int .u64 x.f0, .int .u64 x.f1, .int .u64 0, .int .u64 0, .int .u64 x.f4, .bool false, .slice A6 x.f6.length c6, .slice none 0 0] := by unfold normBox n7 normF; simp [hk]
                  have HN := Lib.hid hn
                  have t2 : (x.f0 == 2) = false := by simp [hk]
                  have t4 : (x.f0 == 4) = false := by simp [hk]
                  have t5 : (x.f0 == 5) = true := by simp [hk]
                  clear hn hk
                  obtain ⟨j0, j1, j2, j3, j4, j5, j6, j7⟩ := Parse.cells8b HKG.out
                  have z1 := blk_frozen HKG.out 1
                  have z4 := blk_frozen HKG.out 4
                  go_upto_region 21 with fail
                  go_region
                  go_wp2_with fail
                  go_meet
                  case rel => exact ⟨rfl, Lib.hid (by rw [HN.out]; have b := (blk_drew (blk_set (blk_set HKG.out 1 (.int .u64 x.f1)) 4 (.int .u64 x.f4))); simpa using b), Lib.hid (kp_drew (((Kp.refl gb w7).set 1 (.int .u64 x.f1)).set 4 (.int .u64 x.f4)))⟩
                by_cases hk6 : x.f0 = 6
                · have hk := hk6
                  clear hk6
                  have hn : normBox x A6 A7 c6 c7 = #[.int .u64 x.f0, .int .u64 0, .int .u64 x.f2, .int .u64 0, .int .u64 0, .bool false, .slice A6 x.f6.length c6, .slice none 0 0] := by unfold normBox n7 normF; simp [hk]
                  have HN := Lib.hid hn
                  have t2 : (x.f0 == 2) = false := by simp [hk]
                  have t4 : (x.f0 == 4) = false := by simp [hk]
                  have t5 : (x.f0 == 5) = false := by simp [hk]
                  have t6 : (x.f0 == 6) = true := by simp [hk]
                  clear hn hk
                  obtain ⟨j0, j1, j2, j3, j4, j5, j6, j7⟩ := Parse.cells8b HKG.out
                  have z2 := blk_frozen HKG.out 2
                  go_wp2_with fail
                  go_meet
                  case rel => exact ⟨rfl, Lib.hid (by rw [HN.out]; have b := (blk_set HKG.out 2 (.int .u64 x.f2)); simpa using b), Lib.hid ((Kp.refl gb w7).set 2 (.int .u64 x.f2))⟩
                by_cases hk8 : x.f0 = 8
                · have hk := hk8
                  clear hk8
                  have hn : normBox x A6 A7 c6 c7 = #[.int .u64 x.f0, .int .u64 x.f1, .int .u64 x.f2, .int .u64 0, .int .u64 0, .bool x.f5, .slice A6 x.f6.length c6, .slice none 0 0] := by unfold normBox n7 normF; simp [hk]
                  have HN := Lib.hid hn
                  have t2 : (x.f0 == 2) = false := by simp [hk]
                  have t4 : (x.f0 == 4) = false := by simp [hk]
                  have t5 : (x.f0 == 5) = false := by simp [hk]
                  have t6 : (x.f0 == 6) = false := by simp [hk]
                  have t8 : (x.f0 == 8) = true := by simp [hk]
                  clear hn hk
                  obtain ⟨j0, j1, j2, j3, j4, j5, j6, j7⟩ := Parse.cells8b HKG.out
                  have z1 := blk_frozen HKG.out 1
                  have z2 := blk_frozen HKG.out 2
                  have z5 := blk_frozen HKG.out 5
                  go_upto_region 25 with fail
                  go_region
                  go_wp2_with fail
                  go_meet
                  case rel => exact ⟨rfl, Lib.hid (by rw [HN.out]; have b := (blk_drew (blk_set (blk_set (blk_set HKG.out 1 (.int .u64 x.f1)) 2 (.int .u64 x.f2)) 5 (.bool x.f5))); simpa using b), Lib.hid (kp_drew ((((Kp.refl gb w7).set 1 (.int .u64 x.f1)).set 2 (.int .u64 x.f2)).set 5 (.bool x.f5)))⟩
                by_cases hk16 : x.f0 = 16
                · have hk := hk16
                  clear hk16
                  have hn : normBox x A6 A7 c6 c7 = #[.int .u64 x.f0, .int .u64 0, .int .u64 0, .int .u64 x.f3, .int .u64 0, .bool false, .slice A6 x.f6.length c6, .slice none 0 0] := by unfold normBox n7 normF; simp [hk]
                  have HN := Lib.hid hn
                  have t2 : (x.f0 == 2) = false := by simp [hk]
                  have t4 : (x.f0 == 4) = false := by simp [hk]
                  have t5 : (x.f0 == 5) = false := by simp [hk]
                  have t6 : (x.f0 == 6) = false := by simp [hk]
                  have t8 : (x.f0 == 8) = false := by simp [hk]
                  have t16 : (x.f0 == 16) = true := by simp [hk]
                  clear hn hk
                  obtain ⟨j0, j1, j2, j3, j4, j5, j6, j7⟩ := Parse.cells8b HKG.out
                  have z3 := blk_frozen HKG.out 3
                  go_wp2_with fail
                  go_meet
                  case rel => exact ⟨rfl, Lib.hid (by rw [HN.out]; have b := (blk_set HKG.out 3 (.int .u64 x.f3)); simpa using b), Lib.hid ((Kp.refl gb w7).set 3 (.int .u64 x.f3))⟩
                by_cases hk18 : x.f0 = 18
                · have hk := hk18
                  clear hk18
                  have hn : normBox x A6 A7 c6 c7 = #[.int .u64 x.f0, .int .u64 0, .int .u64 0, .int .u64 x.f3, .int .u64 0, .bool false, .slice A6 x.f6.length c6, .slice none 0 0] := by unfold normBox n7 normF; simp [hk]
                  have HN := Lib.hid hn
                  have t2 : (x.f0 == 2) = false := by simp [hk]
                  have t4 : (x.f0 == 4) = false := by simp [hk]
                  have t5 : (x.f0 == 5) = false := by simp [hk]
                  have t6 : (x.f0 == 6) = false := by simp [hk]
                  have t8 : (x.f0 == 8) = false := by simp [hk]
                  have t16 : (x.f0 == 16) = false := by simp [hk]
                  have t18 : (x.f0 == 18) = true := by simp [hk]
                  clear hn hk
                  obtain ⟨j0, j1, j2, j3, j4, j5, j6, j7⟩ := Parse.cells8b HKG.out
                  have z3 := blk_frozen HKG.out 3
                  go_wp2_with fail
                  go_meet
                  case rel => exact ⟨rfl, Lib.hid (by rw [HN.out]; have b := (blk_set HKG.out 3 (.int .u64 x.f3)); simpa using b), Lib.hid ((Kp.refl gb w7).set 3 (.int .u64 x.f3))⟩
                by_cases hk17 : x.f0 = 17
                · have hk := hk17
                  clear hk17
                  have hn : normBox x A6 A7 c6 c7 = #[.int .u64 x.f0, .int .u64 x.f1, .int .u64 0, .int .u64 x.f3, .int .u64 0, .bool false, .slice A6 x.f6.length c6, .slice none 0 0] := by unfold normBox n7 normF; simp [hk]
                  have HN := Lib.hid hn
                  have t2 : (x.f0 == 2) = false := by simp [hk]
                  have t4 : (x.f0 == 4) = false := by simp [hk]
                  have t5 : (x.f0 == 5) = false := by simp [hk]
                  have t6 : (x.f0 == 6) = false := by simp [hk]
                  have t8 : (x.f0 == 8) = false := by simp [hk]
                  have t16 : (x.f0 == 16) = false := by simp [hk]
                  have t18 : (x.f0 == 18) = false := by simp [hk]
                  have t17 : (x.f0 == 17) = true := by simp [hk]
                  clear hn hk
                  obtain ⟨j0, j1, j2, j3, j4, j5, j6, j7⟩ := Parse.cells8b HKG.out
                  have z1 := blk_frozen HKG.out 1
                  have z3 := blk_frozen HKG.out 3
                  go_upto_region 30 with fail
                  go_region
                  go_wp2_with fail
                  go_meet
                  case rel => exact ⟨rfl, Lib.hid (by rw [HN.out]; have b := (blk_drew (blk_set (blk_set HKG.out 1 (.int .u64 x.f1)) 3 (.int .u64 x.f3))); simpa using b), Lib.hid (kp_drew (((Kp.refl gb w7).set 1 (.int .u64 x.f1)).set 3 (.int .u64 x.f3)))⟩
                by_cases hk28 : x.f0 = 28
                · have hk := hk28
                  clear hk28
                  have hn : normBox x A6 A7 c6 c7 = #[.int .u64 x.f0, .int .u64 0, .int .u64 0, .int .u64 0, .int .u64 x.f4, .bool false, .slice A6 x.f6.length c6, .slice none 0 0] := by unfold normBox n7 normF; simp [hk]
                  have HN := Lib.hid hn
                  have t2 : (x.f0 == 2) = false := by simp [hk]
                  have t4 : (x.f0 == 4) = false := by simp [hk]
                  have t5 : (x.f0 == 5) = false := by simp [hk]
                  have t6 : (x.f0 == 6) = false := by simp [hk]
                  have t8 : (x.f0 == 8) = false := by simp [hk]
                  have t16 : (x.f0 == 16) = false := by simp [hk]
                  have t18 : (x.f0 == 18) = false := by simp [hk]
                  have t17 : (x.f0 == 17) = false := by simp [hk]
                  have t28 : (x.f0 == 28) = true := by simp [hk]
                  clear hn hk
                  obtain ⟨j0, j1, j2, j3, j4, j5, j6, j7⟩ := Parse.cells8b HKG.out
                  have z4 := blk_frozen HKG.out 4
                  go_wp2_with fail
                  go_meet
                  case rel => exact ⟨rfl, Lib.hid (by rw [HN.out]; have b := (blk_set HKG.out 4 (.int .u64 x.f4)); simpa using b), Lib.hid ((Kp.refl gb w7).set 4 (.int .u64 x.f4))⟩
                have HK := And.intro hk2 (And.intro hk4 (And.intro hk5 (And.intro hk6 (And.intro hk8 (And.intro hk16 (And.intro hk18 (And.intro hk17 hk28)))))))
                clear hk2 hk4 hk5 hk6 hk8 hk16 hk18 hk17 hk28
                have hn : normBox x A6 A7 c6 c7 = #[.int .u64 x.f0, .int .u64 0, .int .u64 0, .int .u64 0, .int .u64 0, .bool false, .slice A6 x.f6.length c6, .slice none 0 0] := by unfold normBox n7 normF; simp [HK.1, HK.2.1, HK.2.2.1, HK.2.2.2.1, HK.2.2.2.2.1, HK.2.2.2.2.2.1, HK.2.2.2.2.2.2.1, HK.2.2.2.2.2.2.2.1, HK.2.2.2.2.2.2.2.2]
                have HN := Lib.hid hn
                have t2 : (x.f0 == 2) = false := by simp [HK.1, HK.2.1, HK.2.2.1, HK.2.2.2.1, HK.2.2.2.2.1, HK.2.2.2.2.2.1, HK.2.2.2.2.2.2.1, HK.2.2.2.2.2.2.2.1, HK.2.2.2.2.2.2.2.2]
                have t4 : (x.f0 == 4) = false := by simp [HK.1, HK.2.1, HK.2.2.1, HK.2.2.2.1, HK.2.2.2.2.1, HK.2.2.2.2.2.1, HK.2.2.2.2.2.2.1, HK.2.2.2.2.2.2.2.1, HK.2.2.2.2.2.2.2.2]
                have t5 : (x.f0 == 5) = false := by simp [HK.1, HK.2.1, HK.2.2.1, HK.2.2.2.1, HK.2.2.2.2.1, HK.2.2.2.2.2.1, HK.2.2.2.2.2.2.1, HK.2.2.2.2.2.2.2.1, HK.2.2.2.2.2.2.2.2]
                have t6 : (x.f0 == 6) = false := by simp [HK.1, HK.2.1, HK.2.2.1, HK.2.2.2.1, HK.2.2.2.2.1, HK.2.2.2.2.2.1, HK.2.2.2.2.2.2.1, HK.2.2.2.2.2.2.2.1, HK.2.2.2.2.2.2.2.2]
                have t8 : (x.f0 == 8) = false := by simp [HK.1, HK.2.1, HK.2.2.1, HK.2.2.2.1, HK.2.2.2.2.1, HK.2.2.2.2.2.1, HK.2.2.2.2.2.2.1, HK.2.2.2.2.2.2.2.1, HK.2.2.2.2.2.2.2.2]
                have t16 : (x.f0 == 16) = false := by simp [HK.1, HK.2.1, HK.2.2.1, HK.2.2.2.1, HK.2.2.2.2.1, HK.2.2.2.2.2.1, HK.2.2.2.2.2.2.1, HK.2.2.2.2.2.2.2.1, HK.2.2.2.2.2.2.2.2]
                have t18 : (x.f0 == 18) = false := by simp [HK.1, HK.2.1, HK.2.2.1, HK.2.2.2.1, HK.2.2.2.2.1, HK.2.2.2.2.2.1, HK.2.2.2.2.2.2.1, HK.2.2.2.2.2.2.2.1, HK.2.2.2.2.2.2.2.2]
                have t17 : (x.f0 == 17) = false := by simp [HK.1, HK.2.1, HK.2.2.1, HK.2.2.2.1, HK.2.2.2.2.1, HK.2.2.2.2.2.1, HK.2.2.2.2.2.2.1, HK.2.2.2.2.2.2.2.1, HK.2.2.2.2.2.2.2.2]
                have t28 : (x.f0 == 28) = false := by simp [HK.1, HK.2.1, HK.2.2.1, HK.2.2.2.1, HK.2.2.2.2.1, HK.2.2.2.2.2.1, HK.2.2.2.2.2.2.1, HK.2.2.2.2.2.2.2.1, HK.2.2.2.2.2.2.2.2]
                clear hn HK
                obtain ⟨j0, j1, j2, j3, j4, j5, j6, j7⟩ := Parse.cells8b HKG.out
                go_wp2_with fail
                go_meet
                case rel => exact ⟨rfl, Lib.hid (by rw [HN.out]; have b := HKG.out; simpa using b), Lib.hid (Kp.refl gb w7)⟩
              case rest =>
                obtain ⟨rfl, HGB, HKP⟩ := hcut
                clear k0 k1 k2 k3 k4 k5 k6 k7
                obtain ⟨A9, c9, e9, h9, hC9⟩ := n7_slice x A7 c7
                have hkk := kept_snoc ys (x, nl) hz0
                have HKK := Lib.hid hkk
                have hq := HGB.out
                unfold normBox at hq
                rw [e9, show x.f6.length = (normF x).f6.length by rw [norm_data]] at hq
                have HQ := Lib.hid hq
                have hl9 : (normF x).f7.length ≤ c9 := by
                  rcases h9 with h | h
                  · exact h
                  · omega
                have hn6 : (normF x).f6.length ≤ c6 := by rw [norm_data]; exact l6
                have hC6 : (Kd.int .u8).C w3 A6 (normF x).f6.length (normF x).f6 := by rw [norm_data]; exact HG6.out
                have gr := kp_grown HKP.out
                have HA9 := Lib.hid (Kd.R_grown2 HA7.out rfl gr (fun kk e1 e2 => by injection e1 with e1; subst e1; exact box_ne HA7.out HKG.out e2.symm))
                have HW9 := Lib.hid (Kd.R_grown2 HW7.out rfl gr (fun kk e1 e2 => by injection e1 with e1; subst e1; exact absurd (HWO.out _ e2.symm) (Nat.lt_irrefl _)))
                have HB9 := Lib.hid (HKP.out.below HB7.out HB7.out.size hg3)
                have HC9 := Lib.hid (hC9 w3 HG7.out)
                have HC6' := Lib.hid hC6
                have hx7' := norm_acks_len x
                clear hkk hq e9 h9 gr HA7 HW7 HB7 hC6 hC9
                obtain ⟨j0, j1, j2, j3, j4, j5, j6, j7⟩ := Parse.cells8b HQ.out
                go_wp2_with (first
                  | ((with_reducible refine gate_builtin (b := .append) (xs := #[.tmp 108, .tmp 110]) rfl ?_); refine appF (w0 := w3) (W0 := w3) w3.heap.size rfl (.tmp 108) (.tmp 110) rfl (normF x) HW9.out rfl rfl hn6 HC6'.out hl9 HC9.out HB9.out HB9.out.size (by omega) ?_; intro v10 w10 R10 B10 G10))
                clear j0 j1 j2 j3 j4 j5 j6 j7
                have HA10 := Lib.hid (Kd.R_grown2 HA9.out rfl G10 (fun kk e1 e2 => rows_ne HA9.out HW9.out kk e2.symm e1))
                have HW10 := Lib.hid R10
                have HB10 := Lib.hid B10
                clear R10 B10 G10 HA9 HW9 HB9
                go_roundw
                case rel => exact ⟨k + 1, ys ++ [(x, nl)], by omega, by go_num, hyl2, hbl2, by rw [HKK.out, List.length_append]; simp only [List.length_cons, List.length_nil]; omega, HG2, Lib.hid (by rw [HKK.out]; intro z hz; rcases List.mem_append.1 hz with h | h; exact HM.out z h; (have hzx : z = normF x := by simpa using h); subst hzx; omega), Lib.hid (by rw [HB2.out]; exact HA10.out), Lib.hid (by rw [HKK.out]; exact HW10.out), HB10⟩
                case measure => simp [intOf]; omega
        · have tz : (r2 != 0) = true := by simp [hz]
          clear hz HR
          go_wp2_with fail
          clear k0 k1 k2 k3 k4 k5 k6 k7
          refine HEN.out.mono ?_
          rintro e w5 ⟨v5, rfl, R5, B5⟩
          have HA5 := Lib.hid (Kd.R_below HA4.out B5)
          have HW5 := Lib.hid (Kd.R_below HW4.out B5)
          have HB5 := Lib.hid (HB4.out.trans (B5.mono HB4.out.size))
          clear R5 B5 HEN HA4 HW4 HB4
          go_wp2_with fail
          go_roundw
          case rel => exact ⟨k + 1, ys, by omega, by go_num, by omega, by omega, hk64, HG, HM, HA5, HW5, HB5⟩
          case measure => simp [intOf]; omega
      · have hkn : k = l.length := by omega
        have HKN := Lib.hid hkn
        clear hkn
        obtain ⟨Aa, ca, ea, hca, hCa, -⟩ := RB.read HA.out
        subst ea
        obtain ⟨Aw', cw', ew, hcw, hCw⟩ := Kd.R_reads HW.out
        injection ew with ew1 ew2 ew3
        subst ew1
        subst ew3
        have PC := parse_calls hCa hca (good_fit HG.out) (by omega)
        rw [parse_good HG.out hk64] at PC
        have HCW := Lib.hid (kF_C hCw HBw.out)
        have HPC := Lib.hid PC
        have HB5 := Lib.hid (HB3.out.trans (HBw.out.mono HB3.out.size))
        clear PC hCa hCw
        generalize bytesF ys = bb at *
        go_wp2_with fail
        refine HPC.out.mono ?_
        rintro e w6 ⟨v6, rfl, R6, B6⟩
        obtain ⟨A6, c6, e6, hc6, hC6⟩ := Kd.R_reads R6
        subst e6
        have SC := sames_calls 100 HM.out (by omega) (by omega) hC6 hc6 (Kd.C_below HCW.out B6) hcw
        have HSC := Lib.hid SC
        have HB6 := Lib.hid (HB5.out.trans (B6.mono HB5.out.size))
        clear R6 B6 hC6 SC HPC
        go_wp2_with fail
        refine HSC.out.mono ?_
        rintro e w7 ⟨rfl, B7⟩
        have HB7 := Lib.hid (HB6.out.trans (B7.mono HB6.out.size))
        clear B7
        go_wp2_with fail
        go_ret
        exact ⟨rfl, HB7.out⟩
end Go.Proofs.Ytmccghadgihbpaa.FrameBackWalk


