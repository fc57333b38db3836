/- Frames, plain: what is encoded is read as it was, with nothing left; with bytes lacking it is short. -/
import Derived.Test.YtmccghadgihbpaaParse
import Derived.Test.YtmccghadgihbpaaSpans
import Derived.Test.YtmccghadgihbpaaVPlain
import Derived.Test.YtmccghadgihbpaaEncAck
import Derived.Test.YtmccghadgihbpaaOpenFrame
namespace Go.Proofs.Ytmccghadgihbpaa.Back
open Go Go.Proofs.Ytmccghadgihbpaa.PFrameBack Go.Proofs.Ytmccghadgihbpaa.VPut Go.Proofs.Ytmccghadgihbpaa.VPlain Go.Proofs.Ytmccghadgihbpaa.Reader Go.Proofs.Ytmccghadgihbpaa.Take Go.Proofs.Ytmccghadgihbpaa.ParseS Go.Proofs.Ytmccghadgihbpaa.ParseOne Go.Proofs.Ytmccghadgihbpaa.Parse Go.Proofs.Ytmccghadgihbpaa.Spans Go.Proofs.Ytmccghadgihbpaa.With Go.Proofs.Ytmccghadgihbpaa.Encode Go.Proofs.Ytmccghadgihbpaa.EncAck Go.Proofs.Ytmccghadgihbpaa.OpenFrame
set_option linter.unusedVariables false
set_option linter.unusedSimpArgs false

def sm (n : Int) : Prop := 0 ≤ n ∧ n < 4611686018427387904

theorem num_app {n : Int} (h : sm n) (r : List Int) : rNum 0 (vbytes n ++ r) = (n, 0, r) := rNum_vbytes n r h.1 h.2
theorem bytes_app (d r : List Int) : rBytes 0 (d ++ r) (d.length : Int) = (d, 0, r) := by
  unfold rBytes
  rw [if_neg (by simp), if_neg (by simp only [List.length_append]; omega)]
  simp
theorem data_app {d : List Int} (h : d.length ≤ 2048) (r : List Int) : dataR 0 (vbytes (d.length : Int) ++ (d ++ r)) = (d, 0, r) := by
  unfold dataR
  rw [num_app ⟨by omega, by omega⟩]
  simp only
  rw [if_neg (by omega), bytes_app]

/-! ### what Encode gives -/
theorem vput_some : ∀ {l out o : List Int}, vput out l = some o → ∀ n ∈ l, n < 4611686018427387904
  | [], out, o, h, n, hn => by cases hn
  | m :: r, out, o, h, n, hn => by
    unfold vput at h
    split at h
    · rcases List.mem_cons.1 hn with rfl | hn
      · assumption
      · exact vput_some h n hn
    · cases h
theorem with_ok {data l b : List Int} (h : withR data l = (b, 0)) (h0 : ∀ n ∈ l, 0 ≤ n) : (∀ n ∈ l, sm n) ∧ b = flat l ++ data := by
  unfold withR at h
  cases ho : vput [] l with
  | none => rw [ho] at h; simp at h
  | some o =>
    rw [ho] at h
    have h1 := vput_some ho
    have h2 : ∀ n ∈ l, 0 ≤ n ∧ n < 4611686018427387904 := fun n hn => ⟨h0 n hn, h1 n hn⟩
    have h3 := vput_flat l [] h2
    rw [ho] at h3
    have h4 : o = flat l := by simpa using h3
    refine ⟨h2, ?_⟩
    have : o ++ data = b := by simpa using h
    rw [← this, h4]

/-- What the frame's bytes are made of. -/
def shape (x : S58) (l : List Int) : Prop :=
  (x.f0 = 2 ∧ okS x.f7 = true ∧ x.f6 = [] ∧ l = ackNums x.f3 x.f7) ∨
  (x.f0 ≠ 2 ∧ numsOf x = some l ∧ x.f6.length ≤ 2048 ∧ (x.f0 = 6 ∨ x.f0 = 8 ∨ x.f0 = 28 ∨ x.f6 = []) ∧ ((x.f0 = 6 ∨ x.f0 = 8) → x.f2 ≤ 4611686018427387903 - (x.f6.length : Int)))

theorem nums_nn {x : S58} {l : List Int} (hb : B58 x) (h : numsOf x = some l) : ∀ n ∈ l, 0 ≤ n := by
  have c0 := (wf64_bd hb.1).1
  have c1 := (wf64_bd hb.2.1).1
  have c2 := (wf64_bd hb.2.2.1).1
  have c3 := (wf64_bd hb.2.2.2.1).1
  have c4 := (wf64_bd hb.2.2.2.2.1).1
  have cl : (0 : Int) ≤ x.f6.length := by omega
  unfold numsOf at h
  intro n hn
  repeat' split at h
  all_goals first | (simp only [Option.some.injEq] at h; subst h; simp only [List.mem_cons, List.not_mem_nil, or_false] at hn) | cases h
  all_goals first | omega | (rcases hn with rfl | rfl | rfl | rfl <;> first | omega | (split <;> omega))

theorem ack_nn {x : S58} (hb : B58 x) (hok : okS x.f7 = true) : ∀ n ∈ ackNums x.f3 x.f7, 0 ≤ n := by
  have hba := B58_acks hb
  obtain ⟨p0, p1, p2⟩ : 0 < x.f7.length ∧ x.f7.length ≤ 32 ∧ okFrom x.f7 0 := by unfold okS at hok; simpa using hok
  have c3 := (wf64_bd hb.2.2.2.1).1
  intro n hn
  unfold ackNums at hn
  rcases List.mem_append.1 hn with hn | hn
  · have h0 := rd_bd hba 0
    have h1 := (p2 0 p0 (Nat.le_refl _)).1
    obtain ⟨⟨a1, a2⟩, a3, a4⟩ := h0
    rw [show ((0 : Nat) : Int) = 0 from rfl] at h1
    simp only [List.mem_cons, List.not_mem_nil, or_false] at hn
    rcases hn with rfl | rfl | rfl | rfl | rfl <;> omega
  · exact (gapsN_bd hba p2 (x.f7.length - 1) (by omega) n hn).1

theorem enc_shape {x : S58} {b : List Int} (hb : B58 x) (h : encF okS ackOf x = (b, 0)) : ∃ l, shape x l ∧ (∀ n ∈ l, sm n) ∧ b = flat l ++ x.f6 := by
  unfold encF at h
  split at h
  · simp at h
  · rename_i h1
    split at h
    · simp at h
    · rename_i h2
      split at h
      · rename_i h3
        split at h
        · rename_i h4
          obtain ⟨hs, hbb⟩ := with_ok h (by unfold ackOf; exact ack_nn hb h4)
          have hd : x.f6 = [] := by
            rcases Nat.eq_zero_or_pos x.f6.length with e | e
            · exact List.eq_nil_of_length_eq_zero e
            · exact absurd ⟨by omega, by omega, by omega, by omega⟩ h2
          exact ⟨_, .inl ⟨h3, h4, hd, rfl⟩, hs, hbb⟩
        · simp at h
      · rename_i h3
        split at h
        · simp at h
        · rename_i h4
          cases hn : numsOf x with
          | none => rw [hn] at h; simp at h
          | some l =>
            rw [hn] at h
            obtain ⟨hs, hbb⟩ := with_ok h (nums_nn hb hn)
            refine ⟨l, .inr ⟨h3, hn, by omega, ?_, fun hk => ?_⟩, hs, hbb⟩
            · rcases Nat.eq_zero_or_pos x.f6.length with e | e
              · exact .inr (.inr (.inr (List.eq_nil_of_length_eq_zero e)))
              · by_cases e6 : x.f0 = 6
                · exact .inl e6
                · by_cases e8 : x.f0 = 8
                  · exact .inr (.inl e8)
                  · by_cases e28 : x.f0 = 28
                    · exact .inr (.inr (.inl e28))
                    · exact absurd ⟨by omega, e6, e8, e28⟩ h2
            · rcases Int.lt_or_le (4611686018427387903 - (x.f6.length : Int)) x.f2 with e | e
              · exact absurd ⟨hk, e⟩ h4
              · exact e

/-- A frame as far as its kind has it. -/
def normF (x : S58) : S58 :=
  if x.f0 = 2 then ⟨x.f0, 0, 0, x.f3, 0, false, x.f6, x.f7⟩
  else if x.f0 = 4 then ⟨x.f0, x.f1, 0, x.f3, x.f4, false, x.f6, []⟩
  else if x.f0 = 5 then ⟨x.f0, x.f1, 0, 0, x.f4, false, x.f6, []⟩
  else if x.f0 = 6 then ⟨x.f0, 0, x.f2, 0, 0, false, x.f6, []⟩
  else if x.f0 = 8 then ⟨x.f0, x.f1, x.f2, 0, 0, x.f5, x.f6, []⟩
  else if x.f0 = 16 ∨ x.f0 = 18 then ⟨x.f0, 0, 0, x.f3, 0, false, x.f6, []⟩
  else if x.f0 = 17 then ⟨x.f0, x.f1, 0, x.f3, 0, false, x.f6, []⟩
  else if x.f0 = 28 then ⟨x.f0, 0, 0, 0, x.f4, false, x.f6, []⟩
  else ⟨x.f0, 0, 0, 0, 0, false, x.f6, []⟩

/-! ### an ACK's spans, forth -/
def gapsF (l : List S84) (i : Nat) : Nat → List Int
  | 0 => []
  | m + 1 => [(rd_T84 l (i : Int)).f0 - (rd_T84 l ((i + 1 : Nat) : Int)).f1 - 2, (rd_T84 l ((i + 1 : Nat) : Int)).f1 - (rd_T84 l ((i + 1 : Nat) : Int)).f0] ++ gapsF l (i + 1) m
theorem gapsF_snoc (l : List S84) : ∀ (m i : Nat), gapsF l i (m + 1) = gapsF l i m ++ [(rd_T84 l ((i + m : Nat) : Int)).f0 - (rd_T84 l ((i + m + 1 : Nat) : Int)).f1 - 2, (rd_T84 l ((i + m + 1 : Nat) : Int)).f1 - (rd_T84 l ((i + m + 1 : Nat) : Int)).f0]
  | 0, i => by simp [gapsF]
  | m + 1, i => by
    rw [gapsF, gapsF_snoc l m (i + 1)]
    rw [show i + 1 + m = i + (m + 1) by omega]
    rfl
theorem gapsN_F (l : List S84) : ∀ n, gapsN l n = gapsF l 0 n
  | 0 => rfl
  | n + 1 => by
    rw [gapsF_snoc, ← gapsN_F l n, Nat.zero_add]
    rfl
theorem rd_in {l : List S84} {i : Nat} (h : i < l.length) : rd_T84 l (i : Int) = l[i] := by
  unfold rd_T84
  simp [List.getD_eq_getElem?_getD, List.getElem?_eq_getElem h]

theorem acks_app {l : List S84} (hb : bds l) (hok : okFrom l 0) (r : List Int) : ∀ (m i : Nat) (acc : List S84), i + m + 1 = l.length → (∀ n ∈ gapsF l i m, sm n) →
    acksL m ((rd_T84 l (i : Int)).f1 - (rd_T84 l (i : Int)).f0) (rd_T84 l (i : Int)).f1 (flat (gapsF l i m) ++ r) acc = (acc ++ l.drop i, 0, r) := by
  intro m
  induction m with
  | zero =>
    intro i acc hi hs
    have h1 := (hok i (by omega) (Nat.zero_le _)).1
    have hbd := rd_bd hb (i : Int)
    unfold acksL
    rw [if_neg (by have := hbd.1.1; omega)]
    have hd : l.drop i = [l[i]] := by
      rw [List.drop_eq_getElem_cons (by omega), List.drop_eq_nil_of_le (by omega)]
    rw [hd, rd_in (by omega)]
    simp only [gapsF, flat, List.nil_append]
    rw [show (l[i]).f1 - ((l[i]).f1 - (l[i]).f0) = (l[i]).f0 by omega]
  | succ m ih =>
    intro i acc hi hs
    have h1 := (hok i (by omega) (Nat.zero_le _)).1
    have hbd := rd_bd hb (i : Int)
    have hn := hok (i + 1) (by omega) (Nat.zero_le _)
    have hbn := rd_bd hb ((i + 1 : Nat) : Int)
    have h3 := hn.2.2 (by omega)
    rw [show (((i + 1 : Nat) : Int) - 1) = (i : Int) by omega] at h3
    have e : gapsF l i (m + 1) = ((rd_T84 l (i : Int)).f0 - (rd_T84 l ((i + 1 : Nat) : Int)).f1 - 2) :: ((rd_T84 l ((i + 1 : Nat) : Int)).f1 - (rd_T84 l ((i + 1 : Nat) : Int)).f0) :: gapsF l (i + 1) m := rfl
    rw [e] at hs ⊢
    have s1 := hs ((rd_T84 l (i : Int)).f0 - (rd_T84 l ((i + 1 : Nat) : Int)).f1 - 2) (by simp)
    have s2 := hs ((rd_T84 l ((i + 1 : Nat) : Int)).f1 - (rd_T84 l ((i + 1 : Nat) : Int)).f0) (by simp)
    have hd : l.drop i = l[i] :: l.drop (i + 1) := List.drop_eq_getElem_cons (by omega)
    unfold acksL
    rw [if_neg (by have := hbd.1.1; omega)]
    simp only [flat, List.append_assoc]
    rw [num_app s1]
    simp only
    rw [num_app s2]
    simp only
    rw [if_neg (by simp), if_neg (by have := hbn.2.1; omega)]
    rw [show (rd_T84 l (i : Int)).f1 - ((rd_T84 l (i : Int)).f1 - (rd_T84 l (i : Int)).f0) - ((rd_T84 l (i : Int)).f0 - (rd_T84 l ((i + 1 : Nat) : Int)).f1 - 2) - 2 = (rd_T84 l ((i + 1 : Nat) : Int)).f1 by omega]
    rw [ih (i + 1) _ (by omega) (fun n hn => hs n (by simp [hn])), hd, rd_in (show i < l.length by omega)]
    rw [show (l[i]).f1 - ((l[i]).f1 - (l[i]).f0) = (l[i]).f0 by omega, List.append_assoc]
    rfl

/-- What is encoded is read as it was. -/
theorem one_shape {x : S58} {l : List Int} (hb : B58 x) (h : shape x l) (hs : ∀ n ∈ l, sm n) (r : List Int) : oneR 0 (flat l ++ x.f6 ++ r) = (normF x, 0, r) := by
  have hba := B58_acks hb
  rcases h with ⟨h0, hok, hd, rfl⟩ | ⟨h0, hn, hlen, hdk, hrg⟩
  · obtain ⟨p0, p1, p2⟩ : 0 < x.f7.length ∧ x.f7.length ≤ 32 ∧ okFrom x.f7 0 := by unfold okS at hok; simpa using hok
    unfold ackNums at hs ⊢
    rw [gapsN_F] at hs ⊢
    have s3 : sm x.f3 := hs _ (by simp)
    have s1 : sm (rd_T84 x.f7 0).f1 := hs _ (by simp)
    have s5 : sm ((rd_T84 x.f7 0).f1 - (rd_T84 x.f7 0).f0) := hs _ (by simp)
    have s4 : sm ((x.f7.length : Int) - 1) := ⟨by omega, by omega⟩
    have s2 : sm 2 := ⟨by decide, by decide⟩
    rw [hd, List.append_nil]
    simp only [List.cons_append, List.nil_append, flat, List.append_assoc]
    unfold oneR
    rw [num_app s2]
    simp only
    unfold bodyR
    rw [if_neg (by decide), if_pos rfl]
    have hack : acksR 0 (vbytes (rd_T84 x.f7 0).f1 ++ (vbytes x.f3 ++ (vbytes ((x.f7.length : Int) - 1) ++ (vbytes ((rd_T84 x.f7 0).f1 - (rd_T84 x.f7 0).f0) ++ (flat (gapsF x.f7 0 (x.f7.length - 1)) ++ r))))) = (x.f7, x.f3, 0, r) := by
      unfold acksR
      simp only [num_app s1, num_app s3, num_app s4, num_app s5]
      rw [if_neg (show ¬ ((if ((x.f7.length : Int) - 1) ≥ 32 then rFail 7 0 else 0) ≠ 0) by rw [if_neg (by omega)]; simp)]
      rw [show ((x.f7.length : Int) - 1).toNat = x.f7.length - 1 by omega]
      have h := acks_app hba p2 r (x.f7.length - 1) 0 [] (by omega) (fun n hn => hs n (by simp [hn]))
      rw [show ((0 : Nat) : Int) = 0 from rfl] at h
      rw [h]
      simp
    rw [hack]
    unfold farR normF
    simp [fr, h0, hd]
  · have key : ∀ k, x.f0 = k → 0 ≤ k → k < 64 → sm k := fun k _ h0 h1 => ⟨h0, by omega⟩
    have cl : sm (x.f6.length : Int) := ⟨by omega, by omega⟩
    unfold numsOf at hn
    by_cases a0 : x.f0 = 0 ∨ x.f0 = 1 ∨ x.f0 = 30
    · rw [if_pos a0] at hn
      have hd : x.f6 = [] := by rcases hdk with h | h | h | h <;> first | exact h | omega
      simp only [Option.some.injEq] at hn
      subst hn
      simp only [flat, hd, List.append_nil]
      unfold oneR
      rw [num_app (hs _ (by simp))]
      unfold bodyR
      rw [if_pos a0]
      unfold farR normF
      rcases a0 with h | h | h <;> simp [fr, h, hd]
    rw [if_neg a0] at hn
    by_cases a4 : x.f0 = 4
    · rw [if_pos a4] at hn
      have hd : x.f6 = [] := by rcases hdk with h | h | h | h <;> first | exact h | omega
      simp only [Option.some.injEq] at hn
      subst hn
      simp only [flat, hd, List.append_nil, List.append_assoc]
      unfold oneR
      rw [num_app (hs _ (by simp))]
      simp only
      unfold bodyR
      simp only [a4]
      simp only [num_app (hs x.f1 (by simp)), num_app (hs x.f4 (by simp)), num_app (hs x.f3 (by simp))]
      unfold farR normF
      simp [fr, a4, hd]
    rw [if_neg a4] at hn
    by_cases a5 : x.f0 = 5
    · rw [if_pos a5] at hn
      have hd : x.f6 = [] := by rcases hdk with h | h | h | h <;> first | exact h | omega
      simp only [Option.some.injEq] at hn
      subst hn
      simp only [flat, hd, List.append_nil, List.append_assoc]
      unfold oneR
      rw [num_app (hs _ (by simp))]
      simp only
      unfold bodyR
      simp only [a5]
      simp only [num_app (hs x.f1 (by simp)), num_app (hs x.f4 (by simp))]
      unfold farR normF
      simp [fr, a5, hd]
    rw [if_neg a5] at hn
    by_cases a6 : x.f0 = 6
    · rw [if_pos a6] at hn
      simp only [Option.some.injEq] at hn
      subst hn
      simp only [flat, List.append_nil, List.append_assoc]
      have hr := hrg (.inl a6)
      unfold oneR
      rw [num_app (hs _ (by simp))]
      simp only
      unfold bodyR
      simp only [a6]
      simp only [num_app (hs x.f2 (by simp)), data_app hlen]
      unfold farR normF
      simp [fr, a6]
      omega
    rw [if_neg a6] at hn
    by_cases a8 : x.f0 = 8
    · rw [if_pos a8] at hn
      have hr := hrg (.inr a8)
      by_cases ho : x.f2 > 0
      · rw [if_pos ho] at hn
        simp only [Option.some.injEq] at hn
        subst hn
        simp only [flat, List.append_nil, List.append_assoc]
        unfold oneR
        rw [num_app (hs _ (by simp))]
        simp only
        unfold bodyR
        cases h5 : x.f5 <;> simp only [h5, Bool.false_eq_true, if_false, if_true] at hs ⊢ <;> simp [num_app (hs x.f1 (by simp)), num_app (hs x.f2 (by simp)), data_app hlen, show ¬ x.f2 = 0 by omega] <;> unfold farR normF <;> simp [fr, a8, h5] <;> omega
      · rw [if_neg ho] at hn
        have h2 : x.f2 = 0 := by have := (wf64_bd hb.2.2.1).1; omega
        simp only [Option.some.injEq] at hn
        subst hn
        simp only [flat, List.append_nil, List.append_assoc]
        unfold oneR
        rw [num_app (hs _ (by simp))]
        simp only
        unfold bodyR
        cases h5 : x.f5 <;> simp only [h5, Bool.false_eq_true, if_false, if_true] at hs ⊢ <;> simp [num_app (hs x.f1 (by simp)), data_app hlen] <;> unfold farR normF <;> simp [fr, a8, h5, h2] <;> omega
    rw [if_neg a8] at hn
    by_cases a16 : x.f0 = 16 ∨ x.f0 = 18
    · rw [if_pos a16] at hn
      have hd : x.f6 = [] := by rcases hdk with h | h | h | h <;> first | exact h | omega
      simp only [Option.some.injEq] at hn
      subst hn
      simp only [flat, hd, List.append_nil, List.append_assoc]
      unfold oneR
      rw [num_app (hs _ (by simp))]
      simp only
      unfold bodyR
      rcases a16 with a16 | a16 <;> simp only [a16] <;> simp only [num_app (hs x.f3 (by simp))] <;> unfold farR normF <;> simp [fr, a16, hd]
    rw [if_neg a16] at hn
    by_cases a17 : x.f0 = 17
    · rw [if_pos a17] at hn
      have hd : x.f6 = [] := by rcases hdk with h | h | h | h <;> first | exact h | omega
      simp only [Option.some.injEq] at hn
      subst hn
      simp only [flat, hd, List.append_nil, List.append_assoc]
      unfold oneR
      rw [num_app (hs _ (by simp))]
      simp only
      unfold bodyR
      simp only [a17]
      simp only [num_app (hs x.f1 (by simp)), num_app (hs x.f3 (by simp))]
      unfold farR normF
      simp [fr, a17, hd]
    rw [if_neg a17] at hn
    by_cases a28 : x.f0 = 28
    · rw [if_pos a28] at hn
      simp only [Option.some.injEq] at hn
      subst hn
      simp only [flat, List.append_nil, List.append_assoc]
      unfold oneR
      rw [num_app (hs _ (by simp))]
      simp only
      unfold bodyR
      simp only [a28]
      simp only [num_app (hs x.f4 (by simp)), data_app hlen]
      unfold farR normF
      simp [fr, a28]
      omega
    rw [if_neg a28] at hn
    cases hn
end Go.Proofs.Ytmccghadgihbpaa.Back

namespace Go.Proofs.Ytmccghadgihbpaa.CutF
open Go Go.Proofs.Ytmccghadgihbpaa.PFrameBack Go.Proofs.Ytmccghadgihbpaa.VPut Go.Proofs.Ytmccghadgihbpaa.VPlain Go.Proofs.Ytmccghadgihbpaa.Reader Go.Proofs.Ytmccghadgihbpaa.Take Go.Proofs.Ytmccghadgihbpaa.ParseS Go.Proofs.Ytmccghadgihbpaa.ParseOne Go.Proofs.Ytmccghadgihbpaa.Parse Go.Proofs.Ytmccghadgihbpaa.Spans Go.Proofs.Ytmccghadgihbpaa.With Go.Proofs.Ytmccghadgihbpaa.Encode Go.Proofs.Ytmccghadgihbpaa.EncAck Go.Proofs.Ytmccghadgihbpaa.OpenFrame Go.Proofs.Ytmccghadgihbpaa.Back
set_option linter.unusedVariables false
set_option linter.unusedSimpArgs false

theorem N3 (x : List Int) : (rNum 3 x).2.1 = 3 := rNum_stick (by decide)
theorem D3 (x : List Int) : (dataR 3 x).2.1 = 3 := dataR_stick (by decide)
theorem F3 (n : Int) : rFail n 3 = 3 := rFail_stick (by decide)
theorem far3 {r : S58 × Int × List Int} (h : r.2.1 = 3) : (farR r).2.1 = 3 := by
  unfold farR
  simp only
  rw [h, F3, ite_self]

theorem num_cut {n : Int} (hn : sm n) (r : List Int) (k : Nat) : (k < (vbytes n).length ∧ (rNum 0 ((vbytes n ++ r).take k)).2.1 = 3) ∨ ((vbytes n).length ≤ k ∧ rNum 0 ((vbytes n ++ r).take k) = (n, 0, r.take (k - (vbytes n).length))) := by
  rcases Nat.lt_or_ge k (vbytes n).length with h | h
  · left
    refine ⟨h, ?_⟩
    rw [List.take_append_of_le_length (by omega)]
    exact rNum_cut n k hn.1 hn.2 h
  · right
    refine ⟨h, ?_⟩
    rw [List.take_append, List.take_of_length_le h]
    exact num_app hn _

theorem data_cut {d : List Int} (hd : d.length ≤ 2048) (k : Nat) (hk : k < (vbytes (d.length : Int) ++ d).length) : (dataR 0 ((vbytes (d.length : Int) ++ d).take k)).2.1 = 3 := by
  unfold dataR
  rcases num_cut (n := (d.length : Int)) ⟨by omega, by omega⟩ d k with ⟨h, e⟩ | ⟨h, e⟩
  · rw [e, F3, ite_self]
    exact rBytes_stick (by decide)
  · rw [e]
    simp only
    rw [if_neg (by omega)]
    unfold rBytes
    rw [List.length_append] at hk
    rw [if_neg (by simp), if_pos (by rw [List.length_take]; omega)]

theorem acks_cut {l : List S84} (hb : bds l) (hok : okFrom l 0) : ∀ (m i : Nat) (acc : List S84) (k : Nat), i + m + 1 = l.length → (∀ n ∈ gapsF l i m, sm n) → k < (flat (gapsF l i m)).length →
    (acksL m ((rd_T84 l (i : Int)).f1 - (rd_T84 l (i : Int)).f0) (rd_T84 l (i : Int)).f1 ((flat (gapsF l i m)).take k) acc).2.1 = 3 := by
  intro m
  induction m with
  | zero => intro i acc k hi hs hk; simp [gapsF, flat] at hk
  | succ m ih =>
    intro i acc k hi hs hk
    have h1 := (hok i (by omega) (Nat.zero_le _)).1
    have hbd := rd_bd hb (i : Int)
    have hn := hok (i + 1) (by omega) (Nat.zero_le _)
    have hbn := rd_bd hb ((i + 1 : Nat) : Int)
    have h3 := hn.2.2 (by omega)
    rw [show (((i + 1 : Nat) : Int) - 1) = (i : Int) by omega] at h3
    have e : gapsF l i (m + 1) = ((rd_T84 l (i : Int)).f0 - (rd_T84 l ((i + 1 : Nat) : Int)).f1 - 2) :: ((rd_T84 l ((i + 1 : Nat) : Int)).f1 - (rd_T84 l ((i + 1 : Nat) : Int)).f0) :: gapsF l (i + 1) m := rfl
    rw [e] at hs hk ⊢
    have s1 := hs ((rd_T84 l (i : Int)).f0 - (rd_T84 l ((i + 1 : Nat) : Int)).f1 - 2) (by simp)
    have s2 := hs ((rd_T84 l ((i + 1 : Nat) : Int)).f1 - (rd_T84 l ((i + 1 : Nat) : Int)).f0) (by simp)
    simp only [flat, List.length_append] at hk
    unfold acksL
    rw [if_neg (by have := hbd.1.1; omega)]
    simp only [flat]
    rcases num_cut s1 (vbytes ((rd_T84 l ((i + 1 : Nat) : Int)).f1 - (rd_T84 l ((i + 1 : Nat) : Int)).f0) ++ flat (gapsF l (i + 1) m)) k with ⟨h, e1⟩ | ⟨h, e1⟩
    · simp only [e1, N3]
      rw [if_pos (by decide)]
      exact N3 _
    · simp only [e1]
      rcases num_cut s2 (flat (gapsF l (i + 1) m)) (k - (vbytes ((rd_T84 l (i : Int)).f0 - (rd_T84 l ((i + 1 : Nat) : Int)).f1 - 2)).length) with ⟨h2, e2⟩ | ⟨h2, e2⟩
      · simp only [e2]
        rw [if_pos (by decide)]
        exact e2
      · simp only [e2]
        rw [if_neg (by simp), if_neg (by have := hbn.2.1; omega)]
        rw [show (rd_T84 l (i : Int)).f1 - ((rd_T84 l (i : Int)).f1 - (rd_T84 l (i : Int)).f0) - ((rd_T84 l (i : Int)).f0 - (rd_T84 l ((i + 1 : Nat) : Int)).f1 - 2) - 2 = (rd_T84 l ((i + 1 : Nat) : Int)).f1 by omega]
        exact ih (i + 1) _ _ (by omega) (fun n hn => hs n (by simp [hn])) (by omega)

/-- Numbers, one behind the other; the fault, and what is left. -/
def rdM : Nat → Int × List Int → Int × List Int
  | 0, s => s
  | m + 1, s => rdM m (rNum s.1 s.2).2
theorem rdM3 : ∀ (m : Nat) (x : List Int), (rdM m (3, x)).1 = 3
  | 0, x => rfl
  | m + 1, x => by
    unfold rdM
    have h := N3 x
    have e : (rNum 3 x).2 = (3, (rNum 3 x).2.2) := Prod.ext h rfl
    rw [e]
    exact rdM3 m _
theorem rdM_cut : ∀ (l : List Int) (r : List Int) (k : Nat), (∀ n ∈ l, sm n) →
    (k < (flat l).length ∧ (rdM l.length (0, (flat l ++ r).take k)).1 = 3) ∨ ((flat l).length ≤ k ∧ rdM l.length (0, (flat l ++ r).take k) = (0, r.take (k - (flat l).length)))
  | [], r, k, h => .inr ⟨Nat.zero_le _, by simp [rdM, flat]⟩
  | n :: l, r, k, h => by
    simp only [flat, List.append_assoc, List.length_cons, List.length_append]
    unfold rdM
    rcases num_cut (h n (by simp)) (flat l ++ r) k with ⟨h1, e1⟩ | ⟨h1, e1⟩
    · left
      refine ⟨by omega, ?_⟩
      have e : (rNum 0 ((vbytes n ++ (flat l ++ r)).take k)).2 = (3, (rNum 0 ((vbytes n ++ (flat l ++ r)).take k)).2.2) := Prod.ext e1 rfl
      rw [e]
      exact rdM3 _ _
    · rw [e1]
      rcases rdM_cut l r (k - (vbytes n).length) (fun m hm => h m (by simp [hm])) with ⟨h2, e2⟩ | ⟨h2, e2⟩
      · exact .inl ⟨by omega, e2⟩
      · exact .inr ⟨by omega, by rw [e2, Nat.sub_sub]⟩

/-- A frame with bytes lacking is short. -/
theorem one_cut {x : S58} {l : List Int} (hb : B58 x) (h : Back.shape x l) (hs : ∀ n ∈ l, sm n) (k : Nat) (hk : k < (flat l ++ x.f6).length) : (oneR 0 ((flat l ++ x.f6).take k)).2.1 = 3 := by
  have hba := B58_acks hb
  rcases h with ⟨h0, hok, hd, rfl⟩ | ⟨h0, hn, hlen, hdk, hrg⟩
  · obtain ⟨p0, p1, p2⟩ : 0 < x.f7.length ∧ x.f7.length ≤ 32 ∧ okFrom x.f7 0 := by unfold okS at hok; simpa using hok
    rw [hd, List.append_nil] at hk ⊢
    unfold ackNums at hs hk ⊢
    rw [gapsN_F] at hs hk ⊢
    have s2 : sm 2 := ⟨by decide, by decide⟩
    have s1 : sm (rd_T84 x.f7 0).f1 := hs _ (by simp)
    have s3 : sm x.f3 := hs _ (by simp)
    have s4 : sm ((x.f7.length : Int) - 1) := ⟨by omega, by omega⟩
    have s5 : sm ((rd_T84 x.f7 0).f1 - (rd_T84 x.f7 0).f0) := hs _ (by simp)
    have hg : ∀ n ∈ gapsF x.f7 0 (x.f7.length - 1), sm n := fun n hn => hs n (by simp [hn])
    simp only [List.cons_append, List.nil_append, flat, List.length_append] at hk ⊢
    unfold oneR
    rcases num_cut s2 (vbytes (rd_T84 x.f7 0).f1 ++ (vbytes x.f3 ++ (vbytes ((x.f7.length : Int) - 1) ++ (vbytes ((rd_T84 x.f7 0).f1 - (rd_T84 x.f7 0).f0) ++ flat (gapsF x.f7 0 (x.f7.length - 1)))))) k with ⟨h, e⟩ | ⟨h, e⟩
    · exact far3 (by rw [e]; exact bodyR_stick (by decide))
    · rw [e]
      refine far3 ?_
      simp only
      unfold bodyR
      rw [if_neg (by decide), if_pos rfl]
      simp only
      unfold acksR
      rcases num_cut s1 (vbytes x.f3 ++ (vbytes ((x.f7.length : Int) - 1) ++ (vbytes ((rd_T84 x.f7 0).f1 - (rd_T84 x.f7 0).f0) ++ flat (gapsF x.f7 0 (x.f7.length - 1))))) (k - (vbytes 2).length) with ⟨h1, e1⟩ | ⟨h1, e1⟩
      · simp only [e1, N3, F3, ite_self]
        rw [if_pos (by decide)]
      · rw [e1]
        simp only
        rcases num_cut s3 (vbytes ((x.f7.length : Int) - 1) ++ (vbytes ((rd_T84 x.f7 0).f1 - (rd_T84 x.f7 0).f0) ++ flat (gapsF x.f7 0 (x.f7.length - 1)))) (k - (vbytes 2).length - (vbytes (rd_T84 x.f7 0).f1).length) with ⟨h2, e2⟩ | ⟨h2, e2⟩
        · simp only [e2, N3, F3, ite_self]
          rw [if_pos (by decide)]
        · rw [e2]
          simp only
          rcases num_cut s4 (vbytes ((rd_T84 x.f7 0).f1 - (rd_T84 x.f7 0).f0) ++ flat (gapsF x.f7 0 (x.f7.length - 1))) (k - (vbytes 2).length - (vbytes (rd_T84 x.f7 0).f1).length - (vbytes x.f3).length) with ⟨h3, e3⟩ | ⟨h3, e3⟩
          · simp only [e3, N3, F3, ite_self]
            rw [if_pos (by decide)]
          · rw [e3]
            simp only
            rw [if_neg (show ¬ ((x.f7.length : Int) - 1 ≥ 32) by omega)]
            rcases num_cut s5 (flat (gapsF x.f7 0 (x.f7.length - 1))) (k - (vbytes 2).length - (vbytes (rd_T84 x.f7 0).f1).length - (vbytes x.f3).length - (vbytes ((x.f7.length : Int) - 1)).length) with ⟨h4, e4⟩ | ⟨h4, e4⟩
            · rw [e4, if_pos (by decide)]
            · rw [e4]
              simp only
              rw [if_neg (by simp)]
              rw [show ((x.f7.length : Int) - 1).toNat = x.f7.length - 1 by omega]
              exact acks_cut hba p2 (x.f7.length - 1) 0 [] _ (by omega) hg (by omega)
  · have nod : ∀ (K : Int) (q : List Int), l = K :: q → (∀ xs, (bodyR K 0 xs).2 = rdM q.length (0, xs)) → x.f6 = [] → (oneR 0 ((flat l ++ x.f6).take k)).2.1 = 3 := by
      intro K q hl hbody hd
      subst hl
      rw [hd] at hk ⊢
      simp only [flat, List.append_nil, List.length_append] at hk ⊢
      unfold oneR
      rcases num_cut (hs K (by simp)) (flat q) k with ⟨h, e⟩ | ⟨h, e⟩
      · exact far3 (by rw [e]; exact bodyR_stick (by decide))
      · rw [e]
        refine far3 ?_
        simp only
        rw [hbody]
        rcases rdM_cut q [] (k - (vbytes K).length) (fun m hm => hs m (by simp [hm])) with ⟨h2, e2⟩ | ⟨h2, e2⟩
        · rw [List.append_nil] at e2; exact e2
        · omega
    have dat : ∀ (K : Int) (q : List Int), l = K :: (q ++ [(x.f6.length : Int)]) → (∀ xs, (rdM q.length (0, xs)).1 = 3 → (bodyR K 0 xs).2.1 = 3) → (∀ r, (dataR 0 r).2.1 = 3 → ∀ xs, (∃ k', xs = (flat q ++ (vbytes (x.f6.length : Int) ++ x.f6)).take k' ∧ (flat q).length ≤ k' ∧ r = (vbytes (x.f6.length : Int) ++ x.f6).take (k' - (flat q).length)) → (bodyR K 0 xs).2.1 = 3) → (oneR 0 ((flat l ++ x.f6).take k)).2.1 = 3 := by
      intro K q hl hbody hdata
      subst hl
      simp only [flat, flat_append, List.append_nil, List.append_assoc] at hk ⊢
      unfold oneR
      rcases num_cut (hs K (by simp)) (flat q ++ (vbytes (x.f6.length : Int) ++ x.f6)) k with ⟨h, e⟩ | ⟨h, e⟩
      · exact far3 (by rw [e]; exact bodyR_stick (by decide))
      · rw [e]
        refine far3 ?_
        simp only
        rcases rdM_cut q (vbytes (x.f6.length : Int) ++ x.f6) (k - (vbytes K).length) (fun m hm => hs m (by simp [hm])) with ⟨h2, e2⟩ | ⟨h2, e2⟩
        · exact hbody _ e2
        · refine hdata _ (data_cut hlen (k - (vbytes K).length - (flat q).length) ?_) _ ⟨_, rfl, h2, rfl⟩
          simp only [List.length_append] at hk ⊢
          omega
    unfold numsOf at hn
    by_cases a0 : x.f0 = 0 ∨ x.f0 = 1 ∨ x.f0 = 30
    · rw [if_pos a0] at hn
      have hd : x.f6 = [] := by rcases hdk with h | h | h | h <;> first | exact h | omega
      simp only [Option.some.injEq] at hn
      refine nod x.f0 [] hn.symm (fun xs => ?_) hd
      unfold bodyR
      rw [if_pos a0]
      rfl
    rw [if_neg a0] at hn
    by_cases a4 : x.f0 = 4
    · rw [if_pos a4] at hn
      have hd : x.f6 = [] := by rcases hdk with h | h | h | h <;> first | exact h | omega
      simp only [Option.some.injEq] at hn
      refine nod x.f0 [x.f1, x.f4, x.f3] hn.symm (fun xs => ?_) hd
      rw [a4]
      rfl
    rw [if_neg a4] at hn
    by_cases a5 : x.f0 = 5
    · rw [if_pos a5] at hn
      have hd : x.f6 = [] := by rcases hdk with h | h | h | h <;> first | exact h | omega
      simp only [Option.some.injEq] at hn
      refine nod x.f0 [x.f1, x.f4] hn.symm (fun xs => ?_) hd
      rw [a5]
      rfl
    rw [if_neg a5] at hn
    have one : ∀ (K : Int) (n : Int), l = K :: ([n] ++ [(x.f6.length : Int)]) → (∀ xs, (bodyR K 0 xs).2 = (dataR (rNum 0 xs).2.1 (rNum 0 xs).2.2).2) → (oneR 0 ((flat l ++ x.f6).take k)).2.1 = 3 := by
      intro K n hl hbody
      refine dat K [n] hl (fun xs h => ?_) (fun r hr xs hx => ?_)
      · rw [hbody]
        have h' : (rNum 0 xs).2.1 = 3 := h
        rw [h', D3]
      · obtain ⟨k', rfl, hk', rfl⟩ := hx
        rw [hbody]
        simp only [flat, List.append_nil] at hk' hr ⊢
        rcases num_cut (hs n (by rw [hl]; simp)) (vbytes (x.f6.length : Int) ++ x.f6) k' with ⟨h, e⟩ | ⟨h, e⟩
        · omega
        · rw [e]; exact hr
    by_cases a6 : x.f0 = 6
    · rw [if_pos a6] at hn
      simp only [Option.some.injEq] at hn
      refine one x.f0 x.f2 hn.symm (fun xs => ?_)
      rw [a6]
      rfl
    rw [if_neg a6] at hn
    by_cases a8 : x.f0 = 8
    · rw [if_pos a8] at hn
      by_cases ho : x.f2 > 0
      · rw [if_pos ho] at hn
        simp only [Option.some.injEq] at hn
        refine dat (14 + (if x.f5 then 1 else 0)) [x.f1, x.f2] hn.symm (fun xs h => ?_) (fun r hr xs hx => ?_)
        · have h' : (rNum (rNum 0 xs).2.1 (rNum 0 xs).2.2).2.1 = 3 := h
          have e : (bodyR (14 + (if x.f5 then 1 else 0)) 0 xs).2 = (dataR (if (rNum (rNum 0 xs).2.1 (rNum 0 xs).2.2).1 = 0 then rFail 5 (rNum (rNum 0 xs).2.1 (rNum 0 xs).2.2).2.1 else (rNum (rNum 0 xs).2.1 (rNum 0 xs).2.2).2.1) (rNum (rNum 0 xs).2.1 (rNum 0 xs).2.2).2.2).2 := by cases x.f5 <;> rfl
          rw [e, h', F3, ite_self, D3]
        · obtain ⟨k', rfl, hk', rfl⟩ := hx
          have e : ∀ xs, (bodyR (14 + (if x.f5 then 1 else 0)) 0 xs).2 = (dataR (if (rNum (rNum 0 xs).2.1 (rNum 0 xs).2.2).1 = 0 then rFail 5 (rNum (rNum 0 xs).2.1 (rNum 0 xs).2.2).2.1 else (rNum (rNum 0 xs).2.1 (rNum 0 xs).2.2).2.1) (rNum (rNum 0 xs).2.1 (rNum 0 xs).2.2).2.2).2 := by intro xs; cases x.f5 <;> rfl
          rw [e]
          simp only [flat, List.append_nil, List.append_assoc, List.length_append] at hk' hr ⊢
          rcases num_cut (hs x.f1 (by rw [← hn]; simp)) (vbytes x.f2 ++ (vbytes (x.f6.length : Int) ++ x.f6)) k' with ⟨h, e1⟩ | ⟨h, e1⟩
          · omega
          · rw [e1]
            simp only
            rcases num_cut (hs x.f2 (by rw [← hn]; simp)) (vbytes (x.f6.length : Int) ++ x.f6) (k' - (vbytes x.f1).length) with ⟨h2, e2⟩ | ⟨h2, e2⟩
            · omega
            · rw [e2]
              simp only
              rw [if_neg (by omega), Nat.sub_sub]
              exact hr
      · rw [if_neg ho] at hn
        simp only [Option.some.injEq] at hn
        refine one (10 + (if x.f5 then 1 else 0)) x.f1 hn.symm (fun xs => ?_)
        cases x.f5 <;> rfl
    rw [if_neg a8] at hn
    by_cases a16 : x.f0 = 16 ∨ x.f0 = 18
    · rw [if_pos a16] at hn
      have hd : x.f6 = [] := by rcases hdk with h | h | h | h <;> first | exact h | omega
      simp only [Option.some.injEq] at hn
      refine nod x.f0 [x.f3] hn.symm (fun xs => ?_) hd
      rcases a16 with h | h <;> (rw [h]; rfl)
    rw [if_neg a16] at hn
    by_cases a17 : x.f0 = 17
    · rw [if_pos a17] at hn
      have hd : x.f6 = [] := by rcases hdk with h | h | h | h <;> first | exact h | omega
      simp only [Option.some.injEq] at hn
      refine nod x.f0 [x.f1, x.f3] hn.symm (fun xs => ?_) hd
      rw [a17]
      rfl
    rw [if_neg a17] at hn
    by_cases a28 : x.f0 = 28
    · rw [if_pos a28] at hn
      simp only [Option.some.injEq] at hn
      refine one x.f0 x.f4 hn.symm (fun xs => ?_)
      rw [a28]
      rfl
    rw [if_neg a28] at hn
    cases hn

/-- Bytes of a frame that is cut: nothing is parsed; short, but nothing at all is nothing. -/
theorem parse_cut {x : S58} {l : List Int} (hb : B58 x) (h : Back.shape x l) (hs : ∀ n ∈ l, sm n) (k : Nat) (hk : k < (flat l ++ x.f6).length) : parseR ((flat l ++ x.f6).take k) = if k = 0 then ([], 0) else ([], 3) := by
  by_cases h0 : k = 0
  · subst h0
    simp [parseR, parseL]
  · rw [if_neg h0]
    have hc := one_cut hb h hs k hk
    have hl : ((flat l ++ x.f6).take k).length = k := by rw [List.length_take]; omega
    unfold parseR
    rw [hl]
    obtain ⟨m, rfl⟩ : ∃ m, k = m + 1 := ⟨k - 1, by omega⟩
    unfold parseL
    rw [if_neg (fun e => by rw [e] at hl; simp at hl), hc, if_pos (by decide)]

/-- One frame, whole. -/
theorem parse_one {x : S58} {l : List Int} (hb : B58 x) (h : Back.shape x l) (hs : ∀ n ∈ l, sm n) (hne : x.f0 ≠ 0) : parseR (flat l ++ x.f6) = ([normF x], 0) := by
  have e := one_shape hb h hs []
  rw [List.append_nil] at e
  have hl : (flat l ++ x.f6) ≠ [] := by
    intro h0
    have h3 : (oneR 0 []).2.1 = 3 := far3 (bodyR_stick (c := 3) (by decide))
    rw [h0] at e
    rw [e] at h3
    cases h3
  unfold parseR
  cases hx : flat l ++ x.f6 with
  | nil => exact absurd hx hl
  | cons v r =>
    rw [hx] at e
    simp only [List.length_cons]
    unfold parseL
    rw [e]
    have hn : (normF x).f0 = x.f0 := by
      unfold normF
      repeat' split
      all_goals rfl
    simp only
    rw [if_neg (by simp), if_neg (by simp), hn, if_neg hne, if_neg (by simp)]
    cases r with
    | nil => rfl
    | cons a b => simp [parseL]
end Go.Proofs.Ytmccghadgihbpaa.CutF

