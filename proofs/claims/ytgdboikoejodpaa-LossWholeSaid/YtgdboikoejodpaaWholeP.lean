/- The law LossWhole, plainly: maps that read as lists of packets; each call parts the lists. -/
import Derived.Test.YtgdboikoejodpaaLaw
import Derived.Maps.RangeWalk
import Derived.Maps.OwnSet
import Derived.Test.YtgdboikoejodpaaFlowLates
import Derived.Test.YtgdboikoejodpaaActs
namespace Go.Proofs.Ytgdboikoejodpaa.WholeP
open Go Go.RowKit Go.Proofs.YtgdboikoejodpaaW.PrintWords Go.Proofs.YtgdboikoejodpaaW.PrintLast Go.Proofs.YtgdboikoejodpaaW.PrintMore Go.Proofs.Ytgdboikoejodpaa.Keep Go.Proofs.Ytgdboikoejodpaa.Led Go.Proofs.Ytgdboikoejodpaa.Rate Go.Proofs.Ytgdboikoejodpaa.Rd Go.Proofs.Ytgdboikoejodpaa.Timer Go.Proofs.Ytgdboikoejodpaa.LedSp Go.Proofs.Ytgdboikoejodpaa.Drop Go.Proofs.Ytgdboikoejodpaa.In Go.Proofs.Ytgdboikoejodpaa.Split Go.Proofs.Ytgdboikoejodpaa.GoneP Go.Proofs.Ytgdboikoejodpaa.Gone Go.Proofs.Ytgdboikoejodpaa.AckP Go.Proofs.Ytgdboikoejodpaa.Ack Go.Proofs.Ytgdboikoejodpaa.Clone Go.Proofs.Ytgdboikoejodpaa.Sent Go.Proofs.Ytgdboikoejodpaa.Inv Go.Proofs.Ytgdboikoejodpaa.Fire Go.Proofs.Ytgdboikoejodpaa.Law
set_option linter.unusedVariables false

abbrev kk (n : Int) : Lit := .int .u64 n
abbrev DU := DataW Unit
/-- The map holds the packets of the list, by their numbers: their sizes. -/
structure MO (D : DU) (l : List S) : Prop where
  tidy : Maps.Tidy D
  size : Maps.size D = l.length
  has : ∀ n, Maps.has D (kk n) = true ↔ n ∈ l.map S.pn
  at_ : ∀ x ∈ l, ∀ z, D.atKey (kk x.pn) z = .lit (kk x.size)
  nd : (l.map S.pn).Nodup
theorem kk_key (n : Int) : WideAt.IsKeyLit (kk n) := trivial
theorem kk_inj {a b : Int} (h : kk a = kk b) : a = b := by injection h
theorem MO.nil : MO (.map []) [] := ⟨Maps.tidy_empty, rfl, fun n => by simp [Maps.has], fun _ h => (nomatch h), List.nodup_nil⟩
theorem MO.perm {D : DU} {l l' : List S} (h : MO D l) (p : l.Perm l') : MO D l' :=
  ⟨h.tidy, h.size.trans p.length_eq, fun n => (h.has n).trans (p.map S.pn).mem_iff, fun x hx z => h.at_ x (p.mem_iff.2 hx) z, (p.map S.pn).nodup_iff.1 h.nd⟩
theorem MO.del {D : DU} {x : S} {l : List S} (h : MO D (x :: l)) : MO (D.del (kk x.pn)) l := by
  have hn : x.pn ∉ l.map S.pn := by have := h.nd; simp only [List.map_cons, List.nodup_cons] at this; exact this.1
  have hx : Maps.has D (kk x.pn) = true := (h.has x.pn).2 (by simp)
  refine ⟨h.tidy.del _, ?_, fun n => ?_, fun y hy z => ?_, ?_⟩
  · have := Maps.size_del (k := kk x.pn) h.tidy
    rw [if_pos hx, h.size] at this
    simp at this
    exact this
  · by_cases e : n = x.pn
    · subst e
      rw [Maps.has_del_same]
      exact ⟨fun e => (nomatch e), fun e => absurd e hn⟩
    · rw [Maps.has_del_other (fun e2 => e (kk_inj e2)), h.has n]
      simp [e]
  · have e : y.pn ≠ x.pn := fun e => hn (e ▸ List.mem_map_of_mem hy)
    rw [Maps.atKey_del_other (fun e2 => e (kk_inj e2))]
    exact h.at_ y (List.mem_cons_of_mem _ hy) z
  · have := h.nd; simp only [List.map_cons, List.nodup_cons] at this; exact this.2
theorem MO.put {D : DU} {l : List S} (h : MO D l) (x : S) (hn : x.pn ∉ l.map S.pn) : MO (D.put (kk x.pn) (.lit (kk x.size))) (l ++ [x]) := by
  have hx : Maps.has D (kk x.pn) = false := by
    cases e : Maps.has D (kk x.pn) with
    | false => rfl
    | true => exact absurd ((h.has x.pn).1 e) hn
  refine ⟨h.tidy.put (kk_key _) _, ?_, fun n => ?_, fun y hy z => ?_, ?_⟩
  · rw [Maps.size_put (k := kk x.pn) h.tidy, if_neg (by rw [hx]; decide), h.size]; simp
  · by_cases e : n = x.pn
    · subst e
      rw [Maps.has_put_same h.tidy.isMap (kk_key _)]
      simp
    · rw [Maps.has_put_other (fun e2 => e (kk_inj e2)), h.has n]
      simp [e]
  · rcases List.mem_append.1 hy with hy | hy
    · have e : y.pn ≠ x.pn := fun e => hn (e ▸ List.mem_map_of_mem hy)
      rw [Maps.atKey_put_other (fun e2 => e (kk_inj e2))]
      exact h.at_ y hy z
    · rw [List.mem_singleton.1 hy]
      exact Maps.atKey_put_same h.tidy.isMap (kk_key _) _ _
  · rw [List.map_append, List.nodup_append]
    refine ⟨h.nd, by simp, ?_⟩
    intro a ha b hb
    simp at hb
    subst hb
    exact fun e => hn (e ▸ ha)

/-- What the entries that are no longer to come sum up to. -/
def sumLeft (left : Lit → Bool) (l : List S) : Int := sumS (l.filter fun x => !left (kk x.pn))
theorem sumLeft_start {D : DU} {l : List S} (h : MO D l) : sumLeft (Maps.has D) l = 0 := by
  unfold sumLeft
  rw [List.filter_eq_nil_iff.2]
  · rfl
  · intro x hx
    have := (h.has x.pn).2 (List.mem_map_of_mem hx)
    simp [this]
theorem sumLeft_end {left : Lit → Bool} {l : List S} (h : ∀ k, left k = false) : sumLeft left l = sumS l := by
  unfold sumLeft
  rw [List.filter_eq_self.2 (fun x _ => by rw [h]; rfl)]
theorem sumS_cons (x : S) (l : List S) : sumS (x :: l) = x.size + sumS l := rfl
theorem sumLeft_cons (left : Lit → Bool) (x : S) (l : List S) : sumLeft left (x :: l) = (if left (kk x.pn) then 0 else x.size) + sumLeft left l := by
  unfold sumLeft
  rw [List.filter_cons]
  cases left (kk x.pn) <;> simp [sumS_cons]
theorem sumLeft_no {left : Lit → Bool} {n : Int} {l : List S} (h : n ∉ l.map S.pn) : sumLeft (fun z => left z && !z.sameKey (kk n)) l = sumLeft left l := by
  unfold sumLeft
  congr 1
  apply List.filter_congr
  intro x hx
  have e : x.pn ≠ n := fun e => h (e ▸ List.mem_map_of_mem hx)
  show (!(left (kk x.pn) && !(kk x.pn).sameKey (kk n))) = _
  rw [Maps.sameKey_ne (fun e2 => e (kk_inj e2))]
  simp
theorem sumLeft_step {left : Lit → Bool} {y : S} : ∀ {l : List S}, (l.map S.pn).Nodup → y ∈ l → left (kk y.pn) = true → sumLeft (fun z => left z && !z.sameKey (kk y.pn)) l = sumLeft left l + y.size
  | x :: l, hnd, hy, hl => by
    simp only [List.map_cons, List.nodup_cons] at hnd
    rw [sumLeft_cons, sumLeft_cons]
    rcases List.mem_cons.1 hy with rfl | hy
    · rw [sumLeft_no hnd.1, hl]
      have : (kk y.pn).sameKey (kk y.pn) = true := by simp [Lit.sameKey]
      simp [this]
      omega
    · have e : x.pn ≠ y.pn := fun e => hnd.1 (e ▸ List.mem_map_of_mem hy)
      rw [sumLeft_step hnd.2 hy hl, Maps.sameKey_ne (fun e2 => e (kk_inj e2))]
      simp
      omega
theorem sumLeft_b (left : Lit → Bool) {l : List S} (h : ∀ x ∈ l, 0 ≤ x.size) : 0 ≤ sumLeft left l ∧ sumLeft left l ≤ sumS l := by
  induction l with
  | nil => simp [sumLeft, sumS]
  | cons x l ih =>
    have h1 := ih (fun y hy => h y (List.mem_cons_of_mem _ hy))
    have h2 := h x (List.mem_cons_self ..)
    rw [sumLeft_cons, sumS_cons]
    split <;> omega

/-- What is lost and what stays is what there was. -/
theorem gone_perm (acked now : Int) (l : List S) (g : G) : ((l.foldl (gstep acked now) g).lost ++ (l.foldl (gstep acked now) g).stay).Perm (g.lost ++ g.stay ++ l) := by
  induction l generalizing g with
  | nil => simp
  | cons x l ih =>
    refine (ih (gstep acked now g x)).trans ?_
    have e : ((gstep acked now g x).lost ++ (gstep acked now g x).stay).Perm (g.lost ++ g.stay ++ [x]) := by
      unfold gstep
      split
      · simp
      · split
        · show (g.lost ++ [x] ++ g.stay).Perm (g.lost ++ g.stay ++ [x])
          rw [List.append_assoc, List.append_assoc]
          exact List.Perm.append_left _ List.perm_append_comm
        · simp
    have := e.append_right l
    simpa using this
theorem goneG_perm (acked now : Int) (l : List S) (r : Rt) : l.Perm ((goneG acked now l r).lost ++ (goneG acked now l r).stay) := by
  have := gone_perm acked now l ⟨[], [], r, 0⟩
  exact (by simpa [goneG] using this : ((goneG acked now l r).lost ++ (goneG acked now l r).stay).Perm l).symm
theorem got_perm (l : List Q) (xs : List S) : xs.Perm (gotL l xs ++ stayL l xs) := (List.filter_append_perm (fun x : S => l.any (inQ x.pn)) xs).symm

/-- What holds of a ledger of this law, beside its bounds. -/
structure ND (k : Nat) (L : Lg) : Prop where
  nd : ∀ i, i < 3 → ((L.sp i).list.map S.pn).Nodup
  lt : ∀ i, i < 3 → ∀ x ∈ (L.sp i).list, x.pn < (L.sp i).next
  len : ∀ i, i < 3 → (L.sp i).list.length ≤ k
  nx : ∀ i, i < 3 → (L.sp i).next ≤ k
theorem ND.mono {k m : Nat} {L : Lg} (h : ND k L) (hk : k ≤ m) : ND m L := ⟨h.nd, h.lt, fun i hi => Nat.le_trans (h.len i hi) hk, fun i hi => by have := h.nx i hi; omega⟩
/-- Lists that lose some. -/
theorem ND.sub {k : Nat} {L L' : Lg} (h : ND k L) (o : Nat → List S) (hp : ∀ i, i < 3 → ((L.sp i).list).Perm (o i ++ (L'.sp i).list)) (hn : ∀ i, i < 3 → (L'.sp i).next = (L.sp i).next) : ND k L' := by
  refine ⟨fun i hi => ?_, fun i hi x hx => ?_, fun i hi => ?_, fun i hi => ?_⟩
  · have := ((hp i hi).map S.pn).nodup_iff.1 (h.nd i hi)
    rw [List.map_append, List.nodup_append] at this
    exact this.2.1
  · rw [hn i hi]
    exact h.lt i hi x ((hp i hi).mem_iff.2 (List.mem_append_right _ hx))
  · have := (hp i hi).length_eq
    have := h.len i hi
    simp at *
    omega
  · rw [hn i hi]; exact h.nx i hi
theorem ack_part (i : Nat) (q : Q) (now : Int) (L : Lg) (hq : q.lo ≤ q.hi ∧ q.hi < (L.sp i).next) : (ackL i [q] now L).2.2.1 = 0 ∧ (∀ j, ((ackL i [q] now L).2.2.2.sp j).next = (L.sp j).next) ∧
    ((L.sp i).list).Perm ((ackL i [q] now L).1 ++ ((ackL i [q] now L).2.1 ++ ((ackL i [q] now L).2.2.2.sp i).list)) ∧ (∀ j, j ≠ i → ((ackL i [q] now L).2.2.2.sp j).list = (L.sp j).list) := by
  have ho : [q].all (okQ (L.sp i).next) = true := by simp [okQ, hq]
  unfold ackL
  rw [if_neg (by rw [ho]; decide)]
  by_cases hg : gotL [q] (L.sp i).list = []
  · rw [if_pos hg]
    refine ⟨rfl, fun j => ?_, ?_, fun j hj => ?_⟩
    · show ((setSp L i _).sp j).next = _
      by_cases e : j = i
      · subst e; rw [setSp_same]
      · rw [setSp_other _ _ _ _ e]
    · show ((L.sp i).list).Perm ([] ++ ([] ++ ((setSp L i _).sp i).list))
      rw [setSp_same]
      exact List.Perm.refl _
    · show ((setSp L i _).sp j).list = _
      rw [setSp_other _ _ _ _ hj]
  · rw [if_neg hg]
    obtain ⟨M, hM⟩ : ∃ M, midL i [q] now L = M := ⟨_, rfl⟩
    have m1 : (M.sp i).list = stayL [q] (L.sp i).list := by rw [← hM]; show ((setSp _ i _).sp i).list = _; rw [setSp_same]
    have m2 : ∀ j, (M.sp j).next = (L.sp j).next := fun j => by
      rw [← hM]; show ((setSp _ i _).sp j).next = _
      by_cases e : j = i
      · subst e; rw [setSp_same]
      · rw [setSp_other _ _ _ _ e]
    have m3 : ∀ j, j ≠ i → (M.sp j).list = (L.sp j).list := fun j hj => by rw [← hM]; show ((setSp _ i _).sp j).list = _; rw [setSp_other _ _ _ _ hj]
    rw [hM]
    refine ⟨rfl, fun j => ?_, ?_, fun j hj => ?_⟩
    · show ((setSp _ i _).sp j).next = _
      rw [← m2 j]
      by_cases e : j = i
      · subst e; rw [setSp_same]
      · rw [setSp_other _ _ _ _ e]
    · show ((L.sp i).list).Perm (gotL [q] (L.sp i).list ++ (goneO i now M ++ ((setSp _ i _).sp i).list))
      rw [setSp_same]
      refine (got_perm [q] _).trans (List.Perm.append_left _ ?_)
      rw [← m1]
      exact goneG_perm _ _ _ _
    · show ((setSp _ i _).sp j).list = _
      rw [setSp_other _ _ _ _ hj]
      exact m3 j hj
theorem goneL_part (i : Nat) (now : Int) (L : Lg) : (∀ j, ((goneL i now L).sp j).next = (L.sp j).next) ∧ ((L.sp i).list).Perm (goneO i now L ++ ((goneL i now L).sp i).list) ∧ (∀ j, j ≠ i → ((goneL i now L).sp j).list = (L.sp j).list) := by
  refine ⟨fun j => ?_, ?_, fun j hj => ?_⟩
  · show ((setSp _ i _).sp j).next = _
    by_cases e : j = i
    · subst e; rw [setSp_same]
    · rw [setSp_other _ _ _ _ e]
  · show ((L.sp i).list).Perm (goneO i now L ++ ((setSp _ i _).sp i).list)
    rw [setSp_same]
    exact goneG_perm _ _ _ _
  · show ((setSp _ i _).sp j).list = _
    rw [setSp_other _ _ _ _ hj]
theorem fireK_part (now : Int) (L : Lg) (k : Nat) : (∀ j, ((fireK now L k).1.sp j).next = (L.sp j).next) ∧ (∀ j, ((L.sp j).list).Perm ((fireK now L k).2.1 j ++ ((fireK now L k).1.sp j).list)) ∧ (∀ j, k ≤ j → (fireK now L k).2.1 j = []) := by
  induction k with
  | zero => exact ⟨fun _ => rfl, fun _ => List.Perm.refl _, fun _ _ => rfl⟩
  | succ k ih =>
    obtain ⟨h1, h2, h3⟩ := ih
    unfold fireK
    split
    · obtain ⟨g1, g2, g3⟩ := goneL_part k now (fireK now L k).1
      refine ⟨fun j => (g1 j).trans (h1 j), fun j => ?_, fun j hj => ?_⟩
      · show ((L.sp j).list).Perm (setO (fireK now L k).2.1 k (goneO k now (fireK now L k).1) j ++ ((goneL k now (fireK now L k).1).sp j).list)
        by_cases e : j = k
        · subst e
          have e1 : setO (fireK now L j).2.1 j (goneO j now (fireK now L j).1) j = goneO j now (fireK now L j).1 := by simp [setO]
          rw [e1]
          refine (h2 j).trans ?_
          rw [h3 j (Nat.le_refl _)]
          exact g2
        · have e1 : setO (fireK now L k).2.1 k (goneO k now (fireK now L k).1) j = (fireK now L k).2.1 j := by simp [setO, e]
          rw [e1, g3 j e]
          exact h2 j
      · show setO (fireK now L k).2.1 k (goneO k now (fireK now L k).1) j = []
        have e1 : setO (fireK now L k).2.1 k (goneO k now (fireK now L k).1) j = (fireK now L k).2.1 j := by unfold setO; rw [if_neg (by omega)]
        rw [e1]
        exact h3 j (by omega)
    · exact ⟨h1, h2, fun j hj => h3 j (by omega)⟩
theorem fire_part (now : Int) (L : Lg) : (∀ j, ((fireL now L).1.sp j).next = (L.sp j).next) ∧ (∀ j, ((L.sp j).list).Perm ((fireL now L).2.1 j ++ ((fireL now L).1.sp j).list)) := by
  unfold fireL
  split
  · exact ⟨fun _ => rfl, fun _ => List.Perm.refl _⟩
  · obtain ⟨h1, h2, -⟩ := fireK_part now L 3
    split
    · exact ⟨h1, h2⟩
    · exact ⟨h1, h2⟩
end Go.Proofs.Ytgdboikoejodpaa.WholeP

namespace Go.Proofs.Ytgdboikoejodpaa.WholeO
open Go Go.RowKit Go.Proofs.YtgdboikoejodpaaW.PrintWords Go.Proofs.YtgdboikoejodpaaW.PrintLast Go.Proofs.YtgdboikoejodpaaW.PrintMore Go.Proofs.Ytgdboikoejodpaa.Keep Go.Proofs.Ytgdboikoejodpaa.Led Go.Proofs.Ytgdboikoejodpaa.Rate Go.Proofs.Ytgdboikoejodpaa.Rd Go.Proofs.Ytgdboikoejodpaa.Timer Go.Proofs.Ytgdboikoejodpaa.LedSp Go.Proofs.Ytgdboikoejodpaa.Drop Go.Proofs.Ytgdboikoejodpaa.In Go.Proofs.Ytgdboikoejodpaa.Split Go.Proofs.Ytgdboikoejodpaa.GoneP Go.Proofs.Ytgdboikoejodpaa.Gone Go.Proofs.Ytgdboikoejodpaa.AckP Go.Proofs.Ytgdboikoejodpaa.Ack Go.Proofs.Ytgdboikoejodpaa.Clone Go.Proofs.Ytgdboikoejodpaa.Sent Go.Proofs.Ytgdboikoejodpaa.Inv Go.Proofs.Ytgdboikoejodpaa.Fire Go.Proofs.Ytgdboikoejodpaa.Law Go.Proofs.Ytgdboikoejodpaa.WholeP
set_option linter.unusedVariables false

noncomputable abbrev pe : Value → Option (DU × List MemPlace) := plainElem Try.prog 25
theorem keyed : Maps.Keyed Try.prog 25 := Maps.int_keyed Try.underlying25
theorem zeroE (w : World) : (zeroValue 25).run Try.prog w = .ok (.int .u64 0) w := by kernel_rfl
theorem wfk {a : Int} (h : 0 ≤ a ∧ a < 18446744073709551616) : (Lit.int .u64 a).wf = true := WalkArith.wf_u64 (by omega)
abbrev Own (W : World) (b n : Nat) (D : DU) : Prop := W.ownsMap Try.prog 25 pe b n D
section
variable {o : Oper} {a : Act} {Q : Exit → Act → World → Prop} {K' : Act → World → Prop} {W : World} {b n : Nat} {D : DU}
theorem op_look (m x : Operand) (hop : o.op = Op.lookup 51 m x true) (hm : a.eval m = .map (some b)) (hown : Own W b n D) {key : Int} (hx : a.eval x = .int .u64 key) (hw : 0 ≤ key ∧ key < 18446744073709551616)
    (hK : ∀ c : Int, K' (a.put o.dst (.tuple #[.int .u64 c, .bool (Maps.has D (kk key))])) W) : Oper.wp Try.prog o a W K' Q := by
  obtain ⟨v, ps, hrun, hv⟩ := hown.look_ok keyed Try.underlying51 (zeroE W) (plainElem_int Try.underlying25 (wfk ⟨Int.le_refl 0, by decide⟩)) (Maps.keyOf_int_mk Try.underlying25 (wfk hw))
  obtain ⟨c, rfl, -, -⟩ := plainElem_int_inv Try.underlying25 hv
  unfold Oper.wp
  simp [execOp, hop, hm, hx, hrun, Result.andThen]
  exact hK c
theorem op_del (m x : Operand) (hop : o.op = Op.call { callee := Callee.builtin Builtin.delete, args := #[m, x], argTypes := #[51, 25] }) (hm : a.eval m = .map (some b)) (hown : Own W b n D) {key : Int} (hx : a.eval x = .int .u64 key) (hw : 0 ≤ key ∧ key < 18446744073709551616)
    (hK : ∀ w', Own w' b n (D.del (kk key)) → W.mapTurned w' b → K' (a.put o.dst (.tuple #[])) w') : Oper.wp Try.prog o a W K' Q := by
  obtain ⟨w', hrun, r1, r2⟩ := hown.drop keyed Try.underlying51 (Maps.keyOf_int_mk Try.underlying25 (wfk hw)) o.type
  unfold Oper.wp
  simp [execOp, hop, resolve, invoke, builtin, hm, hx, hrun, Result.andThen]
  exact hK w' r1 r2
theorem op_put (m x v : Operand) (hop : o.op = Op.mapUpdate 51 m x v) (hm : a.eval m = .map (some b)) (hown : Own W b n D) (hn : n ≤ 1000) {key val : Int} (hx : a.eval x = .int .u64 key) (hv : a.eval v = .int .u64 val) (hw : 0 ≤ key ∧ key < 18446744073709551616) (hw2 : 0 ≤ val ∧ val < 18446744073709551616)
    (hK : ∀ w', Own w' b (n + 1) (D.put (kk key) (.lit (kk val))) → W.mapTurned w' b → K' (a.put o.dst undef) w') : Oper.wp Try.prog o a W K' Q := by
  obtain ⟨w', hrun, r1, r2⟩ := hown.store keyed Try.underlying51 (by unfold maxLen; omega) (Maps.keyOf_int_mk Try.underlying25 (wfk hw)) (plainElem_int Try.underlying25 (wfk hw2))
  unfold Oper.wp
  simp [execOp, hop, hm, hx, hv, hrun, Result.andThen]
  exact hK w' r1 r2
end
theorem kp_turned {W W' : World} {b : Nat} (h : W.mapTurned W' b) : Kp b W W' := by
  have g := h.grown
  exact ⟨g.os, g.tape, g.output, g.size, fun k hk hb => g.block k hk (fun e => hb (Option.some.inj e))⟩
theorem Own.below {W W' : World} {b n : Nat} {D : DU} (h : Own W b n D) (hB : W'.heap[b]? = W.heap[b]?) : Own W' b n D := by
  obtain ⟨es, clock, hb, r⟩ := h
  exact ⟨es, clock, hB.trans hb, r⟩
theorem Own.no_cell {W : World} {b n : Nat} {D : DU} (h : Own W b n D) (j : Nat) (s : Option Nat) {v : Value} (hc : W.cell? ⟨b, j, none⟩ = some v) : False := by
  obtain ⟨es, clock, hb, r⟩ := h
  simp [World.cell?, hb] at hc
theorem CS_ne {W : World} {A : Option Addr} {n m b : Nat} {D : DU} {xs : List S} (h : Kd.C kS W A n xs) (ho : Own W b m D) : ∀ a, A = some a → 0 < n → a.block ≠ b := by
  intro a e hn hb
  subst e
  obtain ⟨ad, e, -, k1, -⟩ := at_S h 0 hn
  injection e with e
  subst e
  have e1 : (a.add (0 * 5)).block = a.block := by unfold Addr.add; split <;> rfl
  rw [e1, hb] at k1
  exact ho.no_cell _ none k1
theorem CS_block {w w' : World} {A : Option Addr} {n : Nat} {xs : List S} (h : Kd.C kS w A n xs) (hb : ∀ a, A = some a → 0 < n → w'.heap[a.block]? = w.heap[a.block]?) : Kd.C kS w' A n xs := by
  refine ⟨h.1, h.2.1, fun hn => ?_⟩
  obtain ⟨ad, e, hc⟩ := h.2.2 hn
  refine ⟨ad, e, fun j p hj => ?_⟩
  obtain ⟨c, hs, hr, hcell⟩ := hc j p hj
  refine ⟨c, hs, hr, fun i u hu => ?_⟩
  have e1 : (ad.add (j * kS.sz + i)).block = ad.block := by unfold Addr.add; split <;> rfl
  rw [World.cell?_of_block (w := w) (by rw [e1]; exact hb ad e hn)]
  exact hcell i u hu
theorem CS_lt {w : World} {a : Addr} {n : Nat} {xs : List S} (h : Kd.C kS w (some a) n xs) (hn : 0 < n) : a.block < w.heap.size := by
  obtain ⟨ad, e, q0, -⟩ := at_S h 0 hn
  injection e with e
  subst e
  have := World.block_lt_of_cell? w _ q0
  have e1 : (a.add (0 * 5)).block = a.block := by unfold Addr.add; split <;> rfl
  rwa [e1] at this
theorem CS_kp {p : Nat} {w w' : World} {A : Option Addr} {n : Nat} {xs : List S} (hk : Kp p w w') (h : Kd.C kS w A n xs) (hp : ∀ a, A = some a → 0 < n → a.block ≠ p) : Kd.C kS w' A n xs :=
  CS_block h (fun a ha hn => hk.block a.block (by subst ha; exact CS_lt h hn) (hp a ha hn))

abbrev oO (m0 m1 m2 : Nat) : Obj := .cells #[.map (some m0), .map (some m1), .map (some m2)] 52 (0, 0)
def mth (m0 m1 m2 : Nat) (i : Nat) : Nat := if i = 0 then m0 else if i = 1 then m1 else m2
theorem o_cell {W : World} {ob m0 m1 m2 : Nat} (h : W.heap[ob]? = some (oO m0 m1 m2)) (i : Nat) (hi : i < 3) : W.cell? ⟨ob, i, none⟩ = some (.map (some (mth m0 m1 m2 i))) := by
  rcases three hi with rfl | rfl | rfl
  · exact blk_cell h 0
  · exact blk_cell h 1
  · exact blk_cell h 2
theorem o_ne {W : World} {ob m0 m1 m2 b n : Nat} {D : DU} (h : W.heap[ob]? = some (oO m0 m1 m2)) (ho : Own W b n D) : ob ≠ b := by
  rintro rfl
  exact ho.no_cell _ none (blk_cell h 0)
/-- While packets are struck out. -/
structure OR (w : World) (ob m0 m1 m2 i n : Nat) (l rest : List S) (k : Nat) (D : DU) (W : World) : Prop where
  ob : W.heap[ob]? = some (oO m0 m1 m2)
  own : Own W (mth m0 m1 m2 i) n D
  mo : MO D (l.drop k ++ rest)
  kp : Kp (mth m0 m1 m2 i) w W
/-- .. beside a packet's box. -/
structure OG (w : World) (ob m0 m1 m2 i n bx : Nat) (x : S) (D : DU) (W : World) : Prop where
  ob : W.heap[ob]? = some (oO m0 m1 m2)
  own : Own W (mth m0 m1 m2 i) n D
  bx : W.heap[bx]? = some (sO x)
  kp : Kp (mth m0 m1 m2 i) w W
theorem OG.drew {w : World} {ob m0 m1 m2 i n bx : Nat} {x : S} {D : DU} {W : World} (h : OG w ob m0 m1 m2 i n bx x D W) : OG w ob m0 m1 m2 i n bx x D W.drew := ⟨h.ob, h.own.drew, h.bx, ⟨h.kp.os, h.kp.tape, h.kp.output, h.kp.size, h.kp.block⟩⟩
theorem OG.del {w : World} {ob m0 m1 m2 i n bx : Nat} {x : S} {D : DU} {W W' : World} (h : OG w ob m0 m1 m2 i n bx x D W) {k : Lit} (ho : Own W' (mth m0 m1 m2 i) n (D.del k)) (ht : W.mapTurned W' (mth m0 m1 m2 i)) : OG w ob m0 m1 m2 i n bx x (D.del k) W' := by
  have hk := kp_turned ht
  exact ⟨hk.blk h.ob (o_ne h.ob h.own), ho, hk.blk h.bx (fun e => (e ▸ h.own).no_cell _ none (blk_cell h.bx 0)), h.kp.trans hk⟩

set_option maxHeartbeats 4000000 in
set_option maxRecDepth 100000 in
theorem over_calls {w : World} (ob m0 m1 m2 i n : Nat) (hi3 : i < 3) (A : Option Addr) (c : Nat) (l rest : List S) (D : DU) (hob : w.heap[ob]? = some (oO m0 m1 m2)) (hown : Own w (mth m0 m1 m2 i) n D) (hmo : MO D (l ++ rest)) (hC : Kd.C kS w A l.length l) (hl : l.length ≤ 1000000) (hb : ∀ x ∈ l, 0 ≤ x.pn ∧ x.pn < 18446744073709551616) :
    Calls Try.prog 20 #[.int .i64 (i : Int), .slice A l.length c, .pointer (some ⟨ob, 0, none⟩)] w fun e w' => e = .returned (.bool true) ∧ ∃ D', Own w' (mth m0 m1 m2 i) n D' ∧ MO D' rest ∧ Kp (mth m0 m1 m2 i) w w' := by
  have HC := Lib.hid hC
  have HNE := Lib.hid (CS_ne hC hown)
  have H0 := Lib.hid (⟨hob, hown, hmo, Kp.refl _ _⟩ : OR w ob m0 m1 m2 i n l rest 0 D w)
  have HBB := Lib.hid hb
  have hi9 : ((i : Nat) : Int) < 3 := by omega
  clear hC hown hmo hob hb
  go_enter Try.func20, Try.ntmps20
  go_wp2_with fail
  go_loopw [12] (fun j wr => ∃ (k : Nat) (D : DU), k ≤ l.length ∧ j = .int .i64 (k : Int) ∧ Hid (OR w ob m0 m1 m2 i n l rest k D wr)) (fun j _ => l.length - (intOf j).toNat)
  case atStart => exact ⟨0, D, by omega, rfl, H0⟩
  case round =>
    clear H0 D
    obtain ⟨k, D, hk, rfl, HO⟩ := hrel
    by_cases hkl : k < l.length
    · have hCr := CS_kp HO.out.kp HC.out HNE.out
      obtain ⟨A', eA, j0, j1, j2, j3, j4⟩ := at_S hCr k hkl
      subst eA
      have hxb := HBB.out _ (rdS_mem hkl)
      have ed : l.drop k = rdS l (k : Int) :: l.drop (k + 1) := by rw [rdS_in hkl]; exact List.drop_eq_getElem_cons hkl
      obtain ⟨x, hx⟩ : ∃ x, rdS l (k : Int) = x := ⟨_, rfl⟩
      rw [hx] at j0 j1 j2 j3 j4 ed hxb
      have hxp := hxb
      have HMO := HO.out.mo
      rw [ed, List.cons_append] at HMO
      have HHAS : Hid (Maps.has D (kk x.pn) = true) := Lib.hid ((HMO.has x.pn).2 (by simp))
      have HMO := Lib.hid HMO
      have HOG : Hid (OG w ob m0 m1 m2 i n wr.heap.size x D (wr.alloc (.cells #[.int .u64 x.pn, .int .u64 x.time, .int .u64 x.size, .bool x.asks, .slice x.fa x.fn x.fc] 30))) := Lib.hid ⟨blk_below HO.out.ob (below_alloc (Below.refl _ _) _), HO.out.own.alloc _, sent_cells (w := wr) x 30, HO.out.kp.trans (Kp.of_below (below_alloc (Below.refl _ _) _))⟩
      clear hx ed hCr hxb
      go_upto_region 4 with fail
      generalize wr.alloc (.cells #[.int .u64 x.pn, .int .u64 x.time, .int .u64 x.size, .bool x.asks, .slice x.fa x.fn x.fc] 30) = w3 at HOG ⊢
      obtain ⟨bx, hbx⟩ : ∃ bx, wr.heap.size = bx := ⟨_, rfl⟩
      simp only [hbx] at HOG ⊢
      clear j0 j1 j2 j3 j4 hbx
      refine Flow.wp_region_lit [17, 18, 19, 20, 21, 22, 16, 23, 24, 8, 9] (by kernel_rfl) (fun jj W v => match jj with | 0 => v = .int .i64 (i : Int) | 1 => v = .pointer (some ⟨ob, i, none⟩) | 2 => v = .map (some (mth m0 m1 m2 i)) | 3 => v = .pointer (some ⟨bx, 0, none⟩) | 4 => v = .int .u64 x.pn | 5 => ∃ c, v = .tuple #[.int .u64 c, .bool true] | 6 => ∃ c, v = .tuple #[.int .u64 c, .bool true] | 7 => ∃ c, v = .int .u64 c | 8 => v = .bool true | 9 => ∃ c, v = .int .u64 c | 10 => v = .bool true | _ => True) (fun W => OG w ob m0 m1 m2 i n bx x D W) (by kernel_rfl) (by kernel_rfl) (by kernel_rfl) (by kernel_rfl) (HOG.out.drew) ?_ ?_
      · intro i o ho a W hG hk hdep
        have hi : i < 11 := (Array.getElem?_eq_some_iff.1 ho).1
        rcases (by omega : i = 0 ∨ i = 1 ∨ i = 2 ∨ i = 3 ∨ i = 4 ∨ i = 5 ∨ i = 6 ∨ i = 7 ∨ i = 8 ∨ i = 9 ∨ i = 10) with rfl | rfl | rfl | rfl | rfl | rfl | rfl | rfl | rfl | rfl | rfl
        · obtain rfl := Option.some.inj ho
          have e0 : a.tmps.getD 0 undef = .int .i64 (i : Int) := hk 0 (by kernel_rfl)
          refine Flow.op_want rfl rfl (fun K hK => ?_)
          clear hdep hk ho
          go_simp
          exact hK _ _ ⟨_, rfl, hG, rfl, fun _ _ h => h⟩
        · obtain rfl := Option.some.inj ho
          have e2 : a.tmps.getD 2 undef = .pointer (some ⟨ob, 0, none⟩) := hk 2 (by kernel_rfl)
          have e17 : a.tmps.getD 17 undef = .int .i64 (i : Int) := hdep 0 17 (by kernel_rfl)
          refine Flow.op_want rfl rfl (fun K hK => ?_)
          clear hdep hk ho
          go_simp
          exact hK _ _ ⟨_, rfl, hG, rfl, fun _ _ h => h⟩
        · obtain rfl := Option.some.inj ho
          have e18 : a.tmps.getD 18 undef = .pointer (some ⟨ob, i, none⟩) := hdep 1 18 (by kernel_rfl)
          have c := o_cell hG.ob i hi3
          refine Flow.op_want rfl rfl (fun K hK => ?_)
          clear hdep hk ho
          go_simp
          exact hK _ _ ⟨_, rfl, hG, rfl, fun _ _ h => h⟩
        · obtain rfl := Option.some.inj ho
          have e7 : a.tmps.getD 7 undef = .pointer (some ⟨bx, 0, none⟩) := hk 7 (by kernel_rfl)
          refine Flow.op_want rfl rfl (fun K hK => ?_)
          clear hdep hk ho
          go_simp
          exact hK _ _ ⟨_, rfl, hG, rfl, fun _ _ h => h⟩
        · obtain rfl := Option.some.inj ho
          have e20 : a.tmps.getD 20 undef = .pointer (some ⟨bx, 0, none⟩) := hdep 3 20 (by kernel_rfl)
          have c := blk_cell hG.bx 0
          refine Flow.op_want rfl rfl (fun K hK => ?_)
          clear hdep hk ho
          go_simp
          exact hK _ _ ⟨_, rfl, hG, rfl, fun _ _ h => h⟩
        · obtain rfl := Option.some.inj ho
          have e19 : a.tmps.getD 19 undef = .map (some (mth m0 m1 m2 i)) := hdep 2 19 (by kernel_rfl)
          have e21 : a.tmps.getD 21 undef = .int .u64 x.pn := hdep 4 21 (by kernel_rfl)
          refine Flow.op_want rfl rfl (fun K hK => ?_)
          refine op_look (.tmp 19) (.tmp 21) rfl e19 hG.own e21 hxp (fun c => ?_)
          rw [HHAS.out]
          exact hK _ _ ⟨_, rfl, hG, ⟨c, rfl⟩, fun _ _ h => h⟩
        · obtain rfl := Option.some.inj ho
          have e22 : (fun (W : World) (v : Value) => ∃ c, v = .tuple #[.int .u64 c, .bool true]) W (a.tmps.getD 22 undef) := hdep 5 22 (by kernel_rfl)
          refine Flow.op_want rfl rfl (fun K hK => ?_)
          obtain ⟨c, e22⟩ := e22
          clear hdep hk ho
          go_simp
          exact hK _ _ ⟨_, rfl, hG, ⟨c, rfl⟩, fun _ _ h => h⟩
        · obtain rfl := Option.some.inj ho
          have e16 : (fun (W : World) (v : Value) => ∃ c, v = .tuple #[.int .u64 c, .bool true]) W (a.tmps.getD 16 undef) := hdep 6 16 (by kernel_rfl)
          refine Flow.op_want rfl rfl (fun K hK => ?_)
          obtain ⟨c, e16⟩ := e16
          clear hdep hk ho
          go_simp
          exact hK _ _ ⟨_, rfl, hG, ⟨c, rfl⟩, fun _ _ h => h⟩
        · obtain rfl := Option.some.inj ho
          have e16 : (fun (W : World) (v : Value) => ∃ c, v = .tuple #[.int .u64 c, .bool true]) W (a.tmps.getD 16 undef) := hdep 6 16 (by kernel_rfl)
          refine Flow.op_want rfl rfl (fun K hK => ?_)
          obtain ⟨c, e16⟩ := e16
          clear hdep hk ho
          go_simp
          exact hK _ _ ⟨_, rfl, hG, rfl, fun _ _ h => h⟩
        · obtain rfl := Option.some.inj ho
          have e23 : (fun (W : World) (v : Value) => ∃ c, v = .int .u64 c) W (a.tmps.getD 23 undef) := hdep 7 23 (by kernel_rfl)
          refine Flow.op_want rfl rfl (fun K hK => ?_)
          obtain ⟨c, e23⟩ := e23
          clear hdep hk ho
          go_simp
          exact hK _ _ ⟨_, rfl, hG, ⟨c, rfl⟩, fun _ _ h => h⟩
        · obtain rfl := Option.some.inj ho
          have e24 : a.tmps.getD 24 undef = .bool true := hdep 8 24 (by kernel_rfl)
          refine Flow.op_want rfl rfl (fun K hK => ?_)
          clear hdep hk ho
          go_simp
          exact hK _ _ ⟨_, rfl, hG, rfl, fun _ _ h => h⟩
      · intro us4 w4 hG4 hval
        have hv10 : us4 9 = .bool true := hval 10 _ 9 rfl rfl
        clear hval
        simp only [Flow.lay, List.set_cons_zero, List.set_cons_succ, hv10]
        go_upto_region 7 with fail
        refine Flow.wp_region_lit_states [27, 28, 29, 30, 31] (by kernel_rfl) (fun jj W v => match jj with | 0 => v = .int .i64 (i : Int) | 1 => v = .pointer (some ⟨ob, i, none⟩) | 2 => v = .map (some (mth m0 m1 m2 i)) | 3 => v = .pointer (some ⟨bx, 0, none⟩) | 4 => v = .int .u64 x.pn | 5 => True | _ => True) (fun bd W => OG w ob m0 m1 m2 i n bx x (if bd 5 then D.del (kk x.pn) else D) W) (by kernel_rfl) (by kernel_rfl) (by kernel_rfl) (by kernel_rfl) (hG4.drew) ?_ ?_
        · intro i o ho bd a W hbi hG hk hdep hcl
          have hi : i < 6 := (Array.getElem?_eq_some_iff.1 ho).1
          rcases (by omega : i = 0 ∨ i = 1 ∨ i = 2 ∨ i = 3 ∨ i = 4 ∨ i = 5) with rfl | rfl | rfl | rfl | rfl | rfl
          · obtain rfl := Option.some.inj ho
            have e0 : a.tmps.getD 0 undef = .int .i64 (i : Int) := hk 0 (by kernel_rfl)
            refine Flow.op_want rfl rfl (fun K hK => ?_)
            clear hdep hk ho hcl
            go_simp
            exact hK _ _ ⟨_, rfl, hG, rfl, fun _ _ _ h => h⟩
          · obtain rfl := Option.some.inj ho
            have e2 : a.tmps.getD 2 undef = .pointer (some ⟨ob, 0, none⟩) := hk 2 (by kernel_rfl)
            have e27 : a.tmps.getD 27 undef = .int .i64 (i : Int) := hdep 0 27 (by kernel_rfl)
            refine Flow.op_want rfl rfl (fun K hK => ?_)
            clear hdep hk ho hcl
            go_simp
            exact hK _ _ ⟨_, rfl, hG, rfl, fun _ _ _ h => h⟩
          · obtain rfl := Option.some.inj ho
            have e28 : a.tmps.getD 28 undef = .pointer (some ⟨ob, i, none⟩) := hdep 1 28 (by kernel_rfl)
            have c := o_cell hG.ob i hi3
            refine Flow.op_want rfl rfl (fun K hK => ?_)
            clear hdep hk ho hcl
            go_simp
            exact hK _ _ ⟨_, rfl, hG, rfl, fun _ _ _ h => h⟩
          · obtain rfl := Option.some.inj ho
            have e7 : a.tmps.getD 7 undef = .pointer (some ⟨bx, 0, none⟩) := hk 7 (by kernel_rfl)
            refine Flow.op_want rfl rfl (fun K hK => ?_)
            clear hdep hk ho hcl
            go_simp
            exact hK _ _ ⟨_, rfl, hG, rfl, fun _ _ _ h => h⟩
          · obtain rfl := Option.some.inj ho
            have e30 : a.tmps.getD 30 undef = .pointer (some ⟨bx, 0, none⟩) := hdep 3 30 (by kernel_rfl)
            have c := blk_cell hG.bx 0
            refine Flow.op_want rfl rfl (fun K hK => ?_)
            clear hdep hk ho hcl
            go_simp
            exact hK _ _ ⟨_, rfl, hG, rfl, fun _ _ _ h => h⟩
          · obtain rfl := Option.some.inj ho
            have e29 : a.tmps.getD 29 undef = .map (some (mth m0 m1 m2 i)) := hdep 2 29 (by kernel_rfl)
            have e31 : a.tmps.getD 31 undef = .int .u64 x.pn := hdep 4 31 (by kernel_rfl)
            refine Flow.op_want rfl rfl (fun K hK => ?_)
            have hG2 : OG w ob m0 m1 m2 i n bx x D W := by have h0 := hG; rw [hbi] at h0; exact h0
            refine op_del (.tmp 29) (.tmp 31) rfl e29 hG2.own e31 hxp (fun W2 ho2 ht2 => ?_)
            exact hK _ _ ⟨_, rfl, hG2.del ho2 ht2, trivial, fun _ _ _ h => h⟩
        · intro bd us7 w7 hall hG7 hval
          have hb5 : bd 5 = true := hall 5 (by decide)
          simp only [hb5] at hG7
          clear hval hall
          simp only [Flow.lay, List.set_cons_zero, List.set_cons_succ]
          go_wp2_with fail
          go_roundw
          case rel => exact ⟨k + 1, _, by omega, by simp, Lib.hid ⟨hG7.ob, hG7.own, HMO.out.del, hG7.kp⟩⟩
          case measure => simp [intOf]; omega
    · have hk2 : k = l.length := by omega
      go_wp2_with fail
      go_ret
      refine ⟨rfl, D, HO.out.own, ?_, HO.out.kp⟩
      have := HO.out.mo
      rw [List.drop_of_length_le (by omega), List.nil_append] at this
      exact this
end Go.Proofs.Ytgdboikoejodpaa.WholeO

namespace Go.Proofs.Ytgdboikoejodpaa.WholeW
open Go Go.RowKit Go.Proofs.YtgdboikoejodpaaW.PrintWords Go.Proofs.YtgdboikoejodpaaW.PrintLast Go.Proofs.YtgdboikoejodpaaW.PrintMore Go.Proofs.Ytgdboikoejodpaa.Keep Go.Proofs.Ytgdboikoejodpaa.Led Go.Proofs.Ytgdboikoejodpaa.Rate Go.Proofs.Ytgdboikoejodpaa.Rd Go.Proofs.Ytgdboikoejodpaa.Timer Go.Proofs.Ytgdboikoejodpaa.LedSp Go.Proofs.Ytgdboikoejodpaa.Drop Go.Proofs.Ytgdboikoejodpaa.In Go.Proofs.Ytgdboikoejodpaa.Split Go.Proofs.Ytgdboikoejodpaa.GoneP Go.Proofs.Ytgdboikoejodpaa.Gone Go.Proofs.Ytgdboikoejodpaa.AckP Go.Proofs.Ytgdboikoejodpaa.Ack Go.Proofs.Ytgdboikoejodpaa.Clone Go.Proofs.Ytgdboikoejodpaa.Sent Go.Proofs.Ytgdboikoejodpaa.Inv Go.Proofs.Ytgdboikoejodpaa.Fire Go.Proofs.Ytgdboikoejodpaa.Law Go.Proofs.Ytgdboikoejodpaa.WholeP Go.Proofs.Ytgdboikoejodpaa.WholeO Go.Proofs.Ytgdboikoejodpaa.Acts
set_option linter.unusedVariables false

abbrev nO (nx : Nat → Int) : Obj := .cells #[.int .u64 (nx 0), .int .u64 (nx 1), .int .u64 (nx 2)] 53 (0, 0)
theorem n_cell {W : World} {nb : Nat} {nx : Nat → Int} (h : W.heap[nb]? = some (nO nx)) (i : Nat) (hi : i < 3) : W.cell? ⟨nb, i, none⟩ = some (.int .u64 (nx i)) := by
  rcases three hi with rfl | rfl | rfl
  · exact blk_cell h 0
  · exact blk_cell h 1
  · exact blk_cell h 2
theorem not_own {W : World} {p base : Nat} {L : Lg} {v : Nat → Value} (hl : Led W p base L v) {k : Nat} {o : Obj} (hk : W.heap[k]? = some o) (h1 : ∀ c, o ≠ .cells c 82 (0, 0)) (h2 : ∀ c, o ≠ .cells c 30 (0, 0)) : ¬ own p v k := by
  rintro (rfl | ⟨i, hi, e⟩)
  · rw [hl.blk] at hk
    injection hk with hk
    exact h1 _ hk.symm
  · obtain ⟨c', hc⟩ := RS_typed (hl.row i hi) _ e
    rw [hk] at hc
    injection hc with hc
    exact h2 _ hc
def setl {α : Type} (f : Nat → α) (i : Nat) (l : α) : Nat → α := fun j => if j = i then l else f j
theorem setl_same {α : Type} (f : Nat → α) (i : Nat) (l : α) : setl f i l i = l := by simp [setl]
theorem setl_other {α : Type} (f : Nat → α) (i j : Nat) (l : α) (h : j ≠ i) : setl f i l j = f j := by simp [setl, h]
/-- The ledger, the maps and the numbers, apart from each other; the maps read as 'ls', the numbers as 'nx'. -/
structure WX (w0 : World) (p ob nb m0 m1 m2 kb n : Nat) (L : Lg) (v : Nat → Value) (nx : Nat → Int) (ls : Nat → List S) (W : World) : Prop where
  lw : LW w0 W p n L v
  hob : W.heap[ob]? = some (oO m0 m1 m2)
  hnb : W.heap[nb]? = some (nO nx)
  mp : ∀ i, i < 3 → ∃ D, Own W (mth m0 m1 m2 i) kb D ∧ MO D (ls i)
  ne : m0 ≠ m1 ∧ m0 ≠ m2 ∧ m1 ≠ m2
  base : ∀ i, i < 3 → w0.heap.size ≤ mth m0 m1 m2 i
  nbase : w0.heap.size ≤ nb
section
variable {w0 : World} {p ob nb m0 m1 m2 kb n : Nat} {L : Lg} {v : Nat → Value} {nx : Nat → Int} {ls : Nat → List S} {W : World}
theorem WX.own_ob (h : WX w0 p ob nb m0 m1 m2 kb n L v nx ls W) : ¬ own p v ob :=
  not_own h.lw.led h.hob (fun c e => by injection e with _ e; exact absurd e (by decide)) (fun c e => by injection e with _ e; exact absurd e (by decide))
theorem WX.own_nb (h : WX w0 p ob nb m0 m1 m2 kb n L v nx ls W) : ¬ own p v nb :=
  not_own h.lw.led h.hnb (fun c e => by injection e with _ e; exact absurd e (by decide)) (fun c e => by injection e with _ e; exact absurd e (by decide))
theorem WX.own_m (h : WX w0 p ob nb m0 m1 m2 kb n L v nx ls W) (i : Nat) (hi : i < 3) : ¬ own p v (mth m0 m1 m2 i) := by
  obtain ⟨D, ⟨es, clock, hb, -⟩, -⟩ := h.mp i hi
  exact not_own h.lw.led hb (fun c e => nomatch e) (fun c e => nomatch e)
theorem mth_ne (h : m0 ≠ m1 ∧ m0 ≠ m2 ∧ m1 ≠ m2) {i j : Nat} (hi : i < 3) (hj : j < 3) (hij : j ≠ i) : mth m0 m1 m2 j ≠ mth m0 m1 m2 i := by
  obtain ⟨h1, h2, h3⟩ := h
  rcases three hi with rfl | rfl | rfl <;> rcases three hj with rfl | rfl | rfl <;> simp [mth] <;> first | (exact absurd rfl hij) | assumption | (exact fun e => h1 e.symm) | (exact fun e => h2 e.symm) | (exact fun e => h3 e.symm)
theorem WX.mono (h : WX w0 p ob nb m0 m1 m2 kb n L v nx ls W) {kb' n' : Nat} (h1 : kb ≤ kb') (h2 : n ≤ n') : WX w0 p ob nb m0 m1 m2 kb' n' L v nx ls W :=
  ⟨h.lw.mono h2, h.hob, h.hnb, fun i hi => by obtain ⟨D, ho, hm⟩ := h.mp i hi; exact ⟨D, ho.mono h1, hm⟩, h.ne, h.base, h.nbase⟩
/-- A call of the ledger. -/
theorem WX.call (h : WX w0 p ob nb m0 m1 m2 kb n L v nx ls W) {W' : World} {n' : Nat} {L' : Lg} {v' : Nat → Value} (hl : LW w0 W' p n' L' v') (hk : KL (own p v) W W') : WX w0 p ob nb m0 m1 m2 kb n' L' v' nx ls W' := by
  refine ⟨hl, hk.blk h.hob h.own_ob, hk.blk h.hnb h.own_nb, fun i hi => ?_, h.ne, h.base, h.nbase⟩
  obtain ⟨D, ho, hm⟩ := h.mp i hi
  exact ⟨D, ho.below (hk.block _ ho.lt (h.own_m i hi)), hm⟩
theorem WX.go (h : WX w0 p ob nb m0 m1 m2 kb n L v nx ls W) {W' : World} (hb : Below W.heap.size W W') : WX w0 p ob nb m0 m1 m2 kb n L v nx ls W' := h.call (h.lw.go hb) (KL.of_below hb)
theorem WX.drewN (h : WX w0 p ob nb m0 m1 m2 kb n L v nx ls W) (k : Nat) : WX w0 p ob nb m0 m1 m2 kb n L v nx ls (W.drewN k) := h.go ⟨rfl, rfl, rfl, Nat.le_refl _, fun _ _ => rfl⟩
/-- A map turns. -/
theorem WX.map (h : WX w0 p ob nb m0 m1 m2 kb n L v nx ls W) (i : Nat) (hi : i < 3) {W' : World} (hk : Kp (mth m0 m1 m2 i) W W') {kb' : Nat} (hkb : kb ≤ kb') {D : DU} {l : List S} (ho : Own W' (mth m0 m1 m2 i) kb' D) (hm : MO D l) : WX w0 p ob nb m0 m1 m2 kb' n L v nx (setl ls i l) W' := by
  obtain ⟨D0, ho0, -⟩ := h.mp i hi
  refine ⟨⟨h.lw.led.stays (fun k hk2 => hk.block k (h.lw.led.own_base k hk2).2 (fun e => h.own_m i hi (e ▸ hk2))), h.lw.inv, hk.below h.lw.below h.lw.below.size (h.base i hi)⟩, hk.blk h.hob (o_ne h.hob ho0), hk.blk h.hnb (fun e => (e ▸ ho0).no_cell _ none (blk_cell h.hnb 0)), fun j hj => ?_, h.ne, h.base, h.nbase⟩
  by_cases e : j = i
  · subst e
    rw [setl_same]
    exact ⟨D, ho, hm⟩
  · rw [setl_other _ _ _ _ e]
    obtain ⟨D1, ho1, hm1⟩ := h.mp j hj
    exact ⟨D1, (ho1.below (hk.block _ ho1.lt (mth_ne h.ne hi hj e))).mono hkb, hm1⟩
/-- A number turns. -/
theorem WX.next (h : WX w0 p ob nb m0 m1 m2 kb n L v nx ls W) (i : Nat) (hi : i < 3) (u : Int) : WX w0 p ob nb m0 m1 m2 kb n L v (setl nx i u) ls (W.setCell ⟨nb, i, none⟩ (.int .u64 u)) := by
  have hk : Kp nb W (W.setCell ⟨nb, i, none⟩ (.int .u64 u)) := (Kp.refl nb W).set i _
  have hb := blk_set h.hnb i (.int .u64 u)
  refine ⟨⟨h.lw.led.stays (fun k hk2 => hk.block k (h.lw.led.own_base k hk2).2 (fun e => h.own_nb (e ▸ hk2))), h.lw.inv, hk.below h.lw.below h.lw.below.size h.nbase⟩, hk.blk h.hob (fun e => ?_), ?_, fun j hj => ?_, h.ne, h.base, h.nbase⟩
  · have h1 := h.hob
    rw [e, h.hnb] at h1
    injection h1 with h1
    injection h1 with _ h2
    exact absurd h2 (by decide)
  · rw [hb]
    rcases three hi with rfl | rfl | rfl <;> simp [setl]
  · obtain ⟨D1, ho1, hm1⟩ := h.mp j hj
    exact ⟨D1, ho1.below (hk.block _ ho1.lt (fun e => (e ▸ ho1).no_cell _ none (blk_cell h.hnb 0))), hm1⟩
theorem WX.lists (h : WX w0 p ob nb m0 m1 m2 kb n L v nx ls W) {ls' : Nat → List S} (hp : ∀ i, i < 3 → (ls i).Perm (ls' i)) : WX w0 p ob nb m0 m1 m2 kb n L v nx ls' W :=
  ⟨h.lw, h.hob, h.hnb, fun i hi => by obtain ⟨D, ho, hm⟩ := h.mp i hi; exact ⟨D, ho, hm.perm (hp i hi)⟩, h.ne, h.base, h.nbase⟩
/-- The closure's call. -/
theorem WX.over (h : WX w0 p ob nb m0 m1 m2 kb n L v nx ls W) (i : Nat) (hi : i < 3) (A : Option Addr) (c : Nat) (l rest : List S) (hl : ls i = l ++ rest) (hC : Kd.C kS W A l.length l) (hll : l.length ≤ 1000000) (hb : ∀ x ∈ l, 0 ≤ x.pn ∧ x.pn < 18446744073709551616) :
    Calls Try.prog 20 #[.int .i64 (i : Int), .slice A l.length c, .pointer (some ⟨ob, 0, none⟩)] W fun e w' => e = .returned (.bool true) ∧ WX w0 p ob nb m0 m1 m2 kb n L v nx (setl ls i rest) w' ∧ Kp (mth m0 m1 m2 i) W w' := by
  obtain ⟨D, ho, hm⟩ := h.mp i hi
  rw [hl] at hm
  refine (over_calls ob m0 m1 m2 i kb hi A c l rest D h.hob ho hm hC hll hb).mono ?_
  rintro e w' ⟨rfl, D', ho', hm', hk⟩
  exact ⟨rfl, h.map i hi hk (Nat.le_refl _) ho' hm', hk⟩
end
def nxL (L : Lg) (i : Nat) : Int := (L.sp i).next
def lsL (L : Lg) (i : Nat) : List S := (L.sp i).list
theorem WX.fin {w0 : World} {p ob nb m0 m1 m2 kb n : Nat} {L L1 : Lg} {v : Nat → Value} {ls : Nat → List S} {W : World} (h : WX w0 p ob nb m0 m1 m2 kb n L v (nxL L1) ls W) (hn : ∀ j, (L.sp j).next = (L1.sp j).next) (hl : ∀ j, j < 3 → ls j = (L.sp j).list) : WX w0 p ob nb m0 m1 m2 kb n L v (nxL L) (lsL L) W := by
  have e : nxL L = nxL L1 := funext hn
  rw [e]
  exact h.lists (fun i hi => by rw [hl i hi]; exact List.Perm.refl _)
/-- At a round's head. -/
structure WW (w0 : World) (p ob nb m0 m1 m2 k n : Nat) (L : Lg) (v : Nat → Value) (W : World) : Prop where
  x : WX w0 p ob nb m0 m1 m2 k n L v (nxL L) (lsL L) W
  nd : ND k L

/-- The loops of a code, in order. -/
def loops : Code → List Code
  | .loop c => [c]
  | .seq a b => loops a ++ loops b
  | .block _ c => loops c
  | .scope c => loops c
  | .cond _ a b => loops a ++ loops b
  | _ => []
noncomputable def body : Code := ((Try.f7.body.map loops).getD []).getD 0 .skip
set_option maxRecDepth 1000000 in
/-- A frame of 205 slots, laid out. -/
theorem laid (a : Act) (hs : a.tmps.size = 205) (hd : a.defers = []) : ∃ u : Nat → Value, a = ⟨#[u 0, u 1, u 2, u 3, u 4, u 5, u 6, u 7, u 8, u 9, u 10, u 11, u 12, u 13, u 14, u 15, u 16, u 17, u 18, u 19, u 20, u 21, u 22, u 23, u 24, u 25, u 26, u 27, u 28, u 29, u 30, u 31, u 32, u 33, u 34, u 35, u 36, u 37, u 38, u 39, u 40, u 41, u 42, u 43, u 44, u 45, u 46, u 47, u 48, u 49, u 50, u 51, u 52, u 53, u 54, u 55, u 56, u 57, u 58, u 59, u 60, u 61, u 62, u 63, u 64, u 65, u 66, u 67, u 68, u 69, u 70, u 71, u 72, u 73, u 74, u 75, u 76, u 77, u 78, u 79, u 80, u 81, u 82, u 83, u 84, u 85, u 86, u 87, u 88, u 89, u 90, u 91, u 92, u 93, u 94, u 95, u 96, u 97, u 98, u 99, u 100, u 101, u 102, u 103, u 104, u 105, u 106, u 107, u 108, u 109, u 110, u 111, u 112, u 113, u 114, u 115, u 116, u 117, u 118, u 119, u 120, u 121, u 122, u 123, u 124, u 125, u 126, u 127, u 128, u 129, u 130, u 131, u 132, u 133, u 134, u 135, u 136, u 137, u 138, u 139, u 140, u 141, u 142, u 143, u 144, u 145, u 146, u 147, u 148, u 149, u 150, u 151, u 152, u 153, u 154, u 155, u 156, u 157, u 158, u 159, u 160, u 161, u 162, u 163, u 164, u 165, u 166, u 167, u 168, u 169, u 170, u 171, u 172, u 173, u 174, u 175, u 176, u 177, u 178, u 179, u 180, u 181, u 182, u 183, u 184, u 185, u 186, u 187, u 188, u 189, u 190, u 191, u 192, u 193, u 194, u 195, u 196, u 197, u 198, u 199, u 200, u 201, u 202, u 203, u 204], []⟩ ∧ ∀ j, u j = a.tmps.getD j undef := by
  refine ⟨fun j => a.tmps.getD j undef, ?_, fun _ => rfl⟩
  obtain ⟨t, d⟩ := a
  have hd : d = [] := hd
  subst hd
  have e : t = ((List.range 205).map fun j => t.getD j undef).toArray := by
    apply Array.ext
    · have : t.size = 205 := hs
      simp [this]
    · intro j h1 h2
      simp [Array.getD_eq_getD_getElem?, Array.getElem?_eq_getElem h1]
  have e2 : ((List.range 205).map fun j => t.getD j undef) = [t.getD 0 undef, t.getD 1 undef, t.getD 2 undef, t.getD 3 undef, t.getD 4 undef, t.getD 5 undef, t.getD 6 undef, t.getD 7 undef, t.getD 8 undef, t.getD 9 undef, t.getD 10 undef, t.getD 11 undef, t.getD 12 undef, t.getD 13 undef, t.getD 14 undef, t.getD 15 undef, t.getD 16 undef, t.getD 17 undef, t.getD 18 undef, t.getD 19 undef, t.getD 20 undef, t.getD 21 undef, t.getD 22 undef, t.getD 23 undef, t.getD 24 undef, t.getD 25 undef, t.getD 26 undef, t.getD 27 undef, t.getD 28 undef, t.getD 29 undef, t.getD 30 undef, t.getD 31 undef, t.getD 32 undef, t.getD 33 undef, t.getD 34 undef, t.getD 35 undef, t.getD 36 undef, t.getD 37 undef, t.getD 38 undef, t.getD 39 undef, t.getD 40 undef, t.getD 41 undef, t.getD 42 undef, t.getD 43 undef, t.getD 44 undef, t.getD 45 undef, t.getD 46 undef, t.getD 47 undef, t.getD 48 undef, t.getD 49 undef, t.getD 50 undef, t.getD 51 undef, t.getD 52 undef, t.getD 53 undef, t.getD 54 undef, t.getD 55 undef, t.getD 56 undef, t.getD 57 undef, t.getD 58 undef, t.getD 59 undef, t.getD 60 undef, t.getD 61 undef, t.getD 62 undef, t.getD 63 undef, t.getD 64 undef, t.getD 65 undef, t.getD 66 undef, t.getD 67 undef, t.getD 68 undef, t.getD 69 undef, t.getD 70 undef, t.getD 71 undef, t.getD 72 undef, t.getD 73 undef, t.getD 74 undef, t.getD 75 undef, t.getD 76 undef, t.getD 77 undef, t.getD 78 undef, t.getD 79 undef, t.getD 80 undef, t.getD 81 undef, t.getD 82 undef, t.getD 83 undef, t.getD 84 undef, t.getD 85 undef, t.getD 86 undef, t.getD 87 undef, t.getD 88 undef, t.getD 89 undef, t.getD 90 undef, t.getD 91 undef, t.getD 92 undef, t.getD 93 undef, t.getD 94 undef, t.getD 95 undef, t.getD 96 undef, t.getD 97 undef, t.getD 98 undef, t.getD 99 undef, t.getD 100 undef, t.getD 101 undef, t.getD 102 undef, t.getD 103 undef, t.getD 104 undef, t.getD 105 undef, t.getD 106 undef, t.getD 107 undef, t.getD 108 undef, t.getD 109 undef, t.getD 110 undef, t.getD 111 undef, t.getD 112 undef, t.getD 113 undef, t.getD 114 undef, t.getD 115 undef, t.getD 116 undef, t.getD 117 undef, t.getD 118 undef, t.getD 119 undef, t.getD 120 undef, t.getD 121 undef, t.getD 122 undef, t.getD 123 undef, t.getD 124 undef, t.getD 125 undef, t.getD 126 undef, t.getD 127 undef, t.getD 128 undef, t.getD 129 undef, t.getD 130 undef, t.getD 131 undef, t.getD 132 undef, t.getD 133 undef, t.getD 134 undef, t.getD 135 undef, t.getD 136 undef, t.getD 137 undef, t.getD 138 undef, t.getD 139 undef, t.getD 140 undef, t.getD 141 undef, t.getD 142 undef, t.getD 143 undef, t.getD 144 undef, t.getD 145 undef, t.getD 146 undef, t.getD 147 undef, t.getD 148 undef, t.getD 149 undef, t.getD 150 undef, t.getD 151 undef, t.getD 152 undef, t.getD 153 undef, t.getD 154 undef, t.getD 155 undef, t.getD 156 undef, t.getD 157 undef, t.getD 158 undef, t.getD 159 undef, t.getD 160 undef, t.getD 161 undef, t.getD 162 undef, t.getD 163 undef, t.getD 164 undef, t.getD 165 undef, t.getD 166 undef, t.getD 167 undef, t.getD 168 undef, t.getD 169 undef, t.getD 170 undef, t.getD 171 undef, t.getD 172 undef, t.getD 173 undef, t.getD 174 undef, t.getD 175 undef, t.getD 176 undef, t.getD 177 undef, t.getD 178 undef, t.getD 179 undef, t.getD 180 undef, t.getD 181 undef, t.getD 182 undef, t.getD 183 undef, t.getD 184 undef, t.getD 185 undef, t.getD 186 undef, t.getD 187 undef, t.getD 188 undef, t.getD 189 undef, t.getD 190 undef, t.getD 191 undef, t.getD 192 undef, t.getD 193 undef, t.getD 194 undef, t.getD 195 undef, t.getD 196 undef, t.getD 197 undef, t.getD 198 undef, t.getD 199 undef, t.getD 200 undef, t.getD 201 undef, t.getD 202 undef, t.getD 203 undef, t.getD 204 undef] := by kernel_rfl
  rw [e2] at e
  exact congrArg (fun t => (⟨t, []⟩ : Act)) e
/-- The block of that number. -/
def blk (i : Nat) : Code → Option Code
  | .block j c => if j = i then some (.block j c) else blk i c
  | .seq a b => (blk i a).orElse fun _ => blk i b
  | .cond _ a b => (blk i a).orElse fun _ => blk i b
  | .loop c => blk i c
  | .scope c => blk i c
  | _ => none
noncomputable def sw : Code := (blk 2 body).getD .skip
/-- Is block 2 in it? -/
def has2 : Code → Bool
  | .block j c => j == 2 || has2 c
  | .seq a b => has2 a || has2 b
  | .cond _ a b => has2 a || has2 b
  | .loop c => has2 c
  | .scope c => has2 c
  | _ => false
/-- What follows the statement that holds block 2. -/
def tlf : Code → Option Code
  | .block j c => if j = 2 then none else tlf c
  | .seq a b => (tlf b).orElse fun _ => (tlf a).orElse fun _ => if has2 a then some b else none
  | .cond _ a b => (tlf a).orElse fun _ => tlf b
  | .loop c => tlf c
  | .scope c => tlf c
  | _ => none
noncomputable def tl : Code := (tlf body).getD .skip
/-- At the head of a round. -/
structure WI (w : World) (B : Option Addr) (c : Nat) (l : List A) (p ob nb m0 m1 m2 : Nat) (a : Act) (wr : World) : Prop where
  size : a.tmps.size = 205
  defs : a.defers = []
  rel : ∃ (k : Nat) (now : Int) (n : Nat) (L : Lg) (v : Nat → Value), k ≤ l.length ∧ k ≤ 101 ∧ n ≤ k ∧ 1 ≤ now ∧ now ≤ 1 + 200 * (k : Int) ∧ WW w p ob nb m0 m1 m2 k n L v wr ∧ a.tmps.getD 0 undef = .slice B l.length c ∧ a.tmps.getD 3 undef = .pointer (some ⟨p, 0, none⟩) ∧ a.tmps.getD 4 undef = .pointer (some ⟨ob, 0, none⟩) ∧ a.tmps.getD 5 undef = .pointer (some ⟨nb, 0, none⟩) ∧ a.tmps.getD 6 undef = .int .u64 now ∧ a.tmps.getD 7 undef = .func (.func 20) #[] #[.pointer (some ⟨ob, 0, none⟩)] ∧ a.tmps.getD 35 undef = .slice B l.length c ∧ a.tmps.getD 36 undef = .int .i64 (l.length : Int) ∧ a.tmps.getD 37 undef = .int .i64 (k : Int)
def Wmu (l : List A) (a : Act) (wr : World) : Nat := l.length - (intOf (a.tmps.getD 37 undef)).toNat
abbrev aO (x : A) (F : Option Addr) (f : Nat) (B : Option Addr) (d : Nat) : Obj := .cells #[.int .u8 x.kind, .int .u8 x.in_, .int .u8 x.n, .int .u16 x.wait, .int .u16 x.size, .bool x.asks, .int .u64 x.p.pn, .int .u64 x.p.time, .int .u64 x.p.size, .bool x.p.asks, .slice F x.p.fr.length f, .slice B x.spans.length d, .int .i64 x.space] 57 (0, 0)
/-- Ahead of the switch. -/
structure SI (w : World) (B : Option Addr) (c : Nat) (l : List A) (p ob nb m0 m1 m2 : Nat) (k i b : Nat) (now kd : Int) (n : Nat) (L : Lg) (v : Nat → Value) (x : A) (F : Option Addr) (f : Nat) (BB : Option Addr) (d : Nat) (a : Act) (wr : World) : Prop where
  size : a.tmps.size = 205
  defs : a.defers = []
  s0 : a.tmps.getD 0 undef = .slice B l.length c
  s3 : a.tmps.getD 3 undef = .pointer (some ⟨p, 0, none⟩)
  s4 : a.tmps.getD 4 undef = .pointer (some ⟨ob, 0, none⟩)
  s5 : a.tmps.getD 5 undef = .pointer (some ⟨nb, 0, none⟩)
  s6 : a.tmps.getD 6 undef = .int .u64 now
  s7 : a.tmps.getD 7 undef = .func (.func 20) #[] #[.pointer (some ⟨ob, 0, none⟩)]
  s9 : a.tmps.getD 9 undef = .pointer (some ⟨b, 0, none⟩)
  s10 : a.tmps.getD 10 undef = .int .i64 (i : Int)
  s35 : a.tmps.getD 35 undef = .slice B l.length c
  s36 : a.tmps.getD 36 undef = .int .i64 (l.length : Int)
  s37 : a.tmps.getD 37 undef = .int .i64 (k : Int)
  s56 : a.tmps.getD 56 undef = .int .u8 kd
  i3 : i < 3
  k1 : k ≤ 100
  nk : n ≤ k
  w0 : 1 ≤ now
  w1 : now ≤ 1 + 200 * ((k : Int) + 1)
  ba : BA x
  bx : wr.heap[b]? = some (aO x F f BB d)
  ww : WW w p ob nb m0 m1 m2 k n L v wr
/-- Behind it. -/
structure SO (w : World) (B : Option Addr) (c : Nat) (l : List A) (p ob nb m0 m1 m2 : Nat) (k : Nat) (a : Act) (wr : World) : Prop where
  size : a.tmps.size = 205
  defs : a.defers = []
  rel : ∃ (now : Int) (n : Nat) (L : Lg) (v : Nat → Value), 1 ≤ now ∧ now ≤ 1 + 200 * ((k : Int) + 1) ∧ n ≤ k + 1 ∧ WW w p ob nb m0 m1 m2 (k + 1) n L v wr ∧ a.tmps.getD 0 undef = .slice B l.length c ∧ a.tmps.getD 3 undef = .pointer (some ⟨p, 0, none⟩) ∧ a.tmps.getD 4 undef = .pointer (some ⟨ob, 0, none⟩) ∧ a.tmps.getD 5 undef = .pointer (some ⟨nb, 0, none⟩) ∧ a.tmps.getD 6 undef = .int .u64 now ∧ a.tmps.getD 7 undef = .func (.func 20) #[] #[.pointer (some ⟨ob, 0, none⟩)] ∧ a.tmps.getD 35 undef = .slice B l.length c ∧ a.tmps.getD 36 undef = .int .i64 (l.length : Int) ∧ a.tmps.getD 37 undef = .int .i64 (k : Int)
end Go.Proofs.Ytgdboikoejodpaa.WholeW

