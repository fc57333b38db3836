/- What head.Put puts, head.Take takes, whatever stands behind; cut, it is short. The plain part. -/
import Derived.Test.YtmccghadgihbpaaTake
import Derived.Test.YtmccghadgihbpaaPHeadBackx2
import Derived.Test.YtmccghadgihbpaaPHeadBackx3
import Derived.Laws.BitsAllLaws
namespace Go.Proofs.Ytmccghadgihbpaa.TakePlain
open Go Go.RowKit Go.Proofs.Ytmccghadgihbpaa.PHeadBack Go.Proofs.YtmccghadgihbpaaW.PrintWords Go.Proofs.YtmccghadgihbpaaW.PrintLast Go.Proofs.YtmccghadgihbpaaW.PrintMore Go.Proofs.Ytmccghadgihbpaa.Keep Go.Proofs.Ytmccghadgihbpaa.Mem Go.Proofs.Ytmccghadgihbpaa.Reader Go.Proofs.Ytmccghadgihbpaa.Take
set_option linter.unusedVariables false

theorem nums (a : Int) : ∀ (n : Nat) (k : Nat) (l : List Int), n < 5 → n < k → l.length + n < 1000 → ∃ t, t.length = n ∧ (∀ x ∈ t, 0 ≤ x ∧ x < 256) ∧ head_Put.l0 k a l ((n : Int) - 1) = some (l ++ t, 0)
  | 0, k, l, _, hk, _ => by
    obtain ⟨k, rfl⟩ : ∃ m, k = m + 1 := ⟨k - 1, by omega⟩
    exact ⟨[], rfl, fun x h => (by cases h), by simp [head_Put.l0]⟩
  | n + 1, k, l, h5, hk, hl => by
    obtain ⟨k, rfl⟩ : ∃ m, k = m + 1 := ⟨k - 1, by omega⟩
    have e1 : wrap64 (8 * (((n + 1 : Nat) : Int) - 1)) = 8 * n := by unfold wrap64; omega
    have e2 : wrap64 ((((n + 1 : Nat) : Int) - 1) - 1) = (n : Int) - 1 := by unfold wrap64; omega
    obtain ⟨t, h1, h2, h3⟩ := nums a n k (l ++ [shr .u64 a (8 * n) % 256]) (by omega) (by omega) (by simp; omega)
    refine ⟨shr .u64 a (8 * n) % 256 :: t, by simp [h1], ?_, ?_⟩
    · intro x hx
      rcases List.mem_cons.1 hx with rfl | hx
      · omega
      · exact h2 x hx
    · simp only [head_Put.l0]
      rw [if_pos (by omega), e1, if_pos (by omega), if_pos (by omega), e2, h3]
      simp

def longB (sp bytes size : Int) (tt ff t : List Int) : List Int :=
  (192 + 32 * sp + (bytes - 1)) :: ([0, 0, 0, 1] ++ (8 :: (tt ++ (8 :: (ff ++ ((if sp = 0 then [0] else []) ++ ((64 + (bytes + size) / 256) :: (bytes + size) % 256 :: t)))))))

def shortB (bytes : Int) (tt t : List Int) : List Int := (64 + (bytes - 1)) :: (tt ++ t)

theorem head_is (sp pn bytes size : Int) (tt ff : List Int) (h0 : 0 ≤ sp) (h2 : sp ≤ 2) (ht : tt.length = 8) (b1 : 1 ≤ bytes) (b4 : bytes ≤ 4) (z0 : 0 ≤ size) (z1 : size ≤ 1200) :
    head_Put.f 10 sp tt ff pn bytes size = head_Put.j0 10 pn bytes size false sp tt ff := by
  have e0 : decide (size > 1200) = false := decide_eq_false (by omega)
  unfold head_Put.f
  rw [if_pos (by omega), if_neg (by omega), if_neg (by omega), if_neg (by omega), if_neg (by omega), if_neg (by omega), e0]

theorem put_long (sp pn bytes size : Int) (tt ff : List Int) (hsp : sp = 0 ∨ sp = 1) (ht : tt.length = 8) (hf : ff.length = 8) (b1 : 1 ≤ bytes) (b4 : bytes ≤ 4) (z0 : 0 ≤ size) (z1 : size ≤ 1200) :
    ∃ t, t.length = bytes.toNat ∧ (∀ x ∈ t, 0 ≤ x ∧ x < 256) ∧ head_Put.f 10 sp tt ff pn bytes size = some (longB sp bytes size tt ff t, 0) := by
  rw [head_is sp pn bytes size tt ff (by omega) (by omega) ht b1 b4 z0 z1]
  have en : wrap64 (bytes - 1) = ((bytes.toNat : Nat) : Int) - 1 := by unfold wrap64; omega
  have e2 : Go.bits .or .u8 (Go.bits .or .u8 192 (wrap64 (sp * 32) % 256)) (wrap64 (bytes - 1) % 256) = 192 + 32 * sp + (bytes - 1) := by
    rcases (by omega : bytes = 1 ∨ bytes = 2 ∨ bytes = 3 ∨ bytes = 4) with rfl | rfl | rfl | rfl <;> rcases hsp with rfl | rfl <;> decide +kernel
  have e3 : Go.bits .or .u8 64 (wrap64 (bytes + size) / 256 % 256) = 64 + (bytes + size) / 256 := by
    have w1 : wrap64 (bytes + size) = bytes + size := by unfold wrap64; omega
    rw [w1]
    have hq : 0 ≤ (bytes + size) / 256 ∧ (bytes + size) / 256 ≤ 4 := by omega
    generalize (bytes + size) / 256 = q at *
    rcases (by omega : q = 0 ∨ q = 1 ∨ q = 2 ∨ q = 3 ∨ q = 4) with rfl | rfl | rfl | rfl | rfl <;> decide +kernel
  have e4 : wrap64 (bytes + size) % 256 = (bytes + size) % 256 := by
    have w1 : wrap64 (bytes + size) = bytes + size := by unfold wrap64; omega
    rw [w1]
  simp only [head_Put.j0, head_Put.j1, Option.bind_some, if_neg (show ¬ (false = true) by decide)]
  rw [if_neg (by omega), if_pos (by omega), e2, e3, e4, en]
  by_cases c0 : sp = 0
  · simp only [if_pos c0, List.length_append, List.length_cons, List.length_nil, ht, hf, Nat.reduceAdd, Nat.reduceLT, if_true]
    obtain ⟨t, h1, h2, h3⟩ := nums pn bytes.toNat 8 ([192 + 32 * sp + (bytes - 1), 0, 0, 0, 1, 8] ++ tt ++ [8] ++ ff ++ [0] ++ [64 + (bytes + size) / 256, (bytes + size) % 256]) (by omega) (by omega) (by simp only [List.length_append, List.length_cons, List.length_nil, ht, hf]; omega)
    refine ⟨t, h1, h2, h3.trans ?_⟩
    unfold longB
    simp [c0]
  · simp only [if_neg c0, List.length_append, List.length_cons, List.length_nil, ht, hf, Nat.reduceAdd, Nat.reduceLT, if_true]
    obtain ⟨t, h1, h2, h3⟩ := nums pn bytes.toNat 8 ([192 + 32 * sp + (bytes - 1), 0, 0, 0, 1, 8] ++ tt ++ [8] ++ ff ++ [64 + (bytes + size) / 256, (bytes + size) % 256]) (by omega) (by omega) (by simp only [List.length_append, List.length_cons, List.length_nil, ht, hf]; omega)
    refine ⟨t, h1, h2, h3.trans ?_⟩
    unfold longB
    simp [c0]

theorem put_short (pn bytes size : Int) (tt ff : List Int) (ht : tt.length = 8) (b1 : 1 ≤ bytes) (b4 : bytes ≤ 4) (z0 : 0 ≤ size) (z1 : size ≤ 1200) :
    ∃ t, t.length = bytes.toNat ∧ (∀ x ∈ t, 0 ≤ x ∧ x < 256) ∧ head_Put.f 10 2 tt ff pn bytes size = some (shortB bytes tt t, 0) := by
  rw [head_is 2 pn bytes size tt ff (by omega) (by omega) ht b1 b4 z0 z1]
  have en : wrap64 (bytes - 1) = ((bytes.toNat : Nat) : Int) - 1 := by unfold wrap64; omega
  have e1 : Go.bits .or .u8 64 (wrap64 (bytes - 1) % 256) = 64 + (bytes - 1) := by
    rcases (by omega : bytes = 1 ∨ bytes = 2 ∨ bytes = 3 ∨ bytes = 4) with rfl | rfl | rfl | rfl <;> decide +kernel
  simp only [head_Put.j0, head_Put.j1, Option.bind_some, if_neg (show ¬ (false = true) by decide)]
  rw [if_pos trivial, e1, en, if_pos (by simp only [List.length_cons, List.length_nil, ht]; omega)]
  obtain ⟨t, h1, h2, h3⟩ := nums pn bytes.toNat 8 ([64 + (bytes - 1)] ++ tt) (by omega) (by omega) (by simp only [List.length_append, List.length_cons, List.length_nil, ht]; omega)
  refine ⟨t, h1, h2, h3.trans ?_⟩
  unfold shortB
  simp

/-! ### the long head, stage by stage -/
def fin (sp : Int) (l1 l2 : List Int) (B : Int) (n : Int × Int × List Int) : TR :=
  if (if n.2.1 = 0 ∧ n.1 > (n.2.2.length : Int) then rFail 3 n.2.1 else n.2.1) ≠ 0 then ⟨0, [], [], 0, 0, (if n.2.1 = 0 ∧ n.1 > (n.2.2.length : Int) then rFail 3 n.2.1 else n.2.1)⟩ else ⟨sp, l1, l2, B - n.2.2.length, B - n.2.2.length + n.1, 0⟩
def tailN (sp : Int) (l1 l2 : List Int) (B c : Int) (x : List Int) : TR := fin sp l1 l2 B (rNum c x)
def tailZ (sp : Int) (l1 l2 : List Int) (B c : Int) (x : List Int) : TR :=
  tailN sp l1 l2 B (if sp = 0 then (let y := rByte c x; (if y.1 ≠ 0 then rFail 5 y.2.1 else y.2.1, y.2.2)) else (c, x)).1 (if sp = 0 then (let y := rByte c x; (if y.1 ≠ 0 then rFail 5 y.2.1 else y.2.1, y.2.2)) else (c, x)).2
def tailF (sp : Int) (l1 : List Int) (B c : Int) (x : List Int) : TR := tailZ sp l1 (idR c x).1 B (idR c x).2.1 (idR c x).2.2
def tailT (sp : Int) (B c : Int) (x : List Int) : TR := tailF sp (idR c x).1 B (idR c x).2.1 (idR c x).2.2
def tailV (sp : Int) (B c : Int) (x : List Int) : TR := tailT sp B (verR 0 (rBytes c x 4).2.1 (rBytes c x 4).1) (rBytes c x 4).2.2
theorem takeL_is (b : List Int) : takeL b = tailV (bits .and .u8 ((rByte 0 b).1 / 32) 1) b.length (if bits .and .u8 (rByte 0 b).1 80 ≠ 64 then rFail 5 (rByte 0 b).2.1 else (rByte 0 b).2.1) (rByte 0 b).2.2 := rfl

def D : TR := ⟨0, [], [], 0, 0, 3⟩

/-! ### what is read of what is put -/
theorem rBytes_app (l r : List Int) (n : Int) (h : n = l.length) : rBytes 0 (l ++ r) n = (l, 0, r) := by
  subst h
  unfold rBytes
  rw [if_neg (by simp), if_neg (by simp; omega)]
  simp
theorem rBytes_cut (l r : List Int) (n : Int) (k : Nat) (h : n = l.length) : rBytes 0 ((l ++ r).take k) n = if k < l.length then ([], 3, (l ++ r).take k) else (l, 0, r.take (k - l.length)) := by
  subst h
  by_cases hk : k < l.length
  · rw [if_pos hk]
    unfold rBytes
    rw [if_neg (by simp), if_pos (by simp; omega)]
  · rw [if_neg hk, List.take_append, List.take_of_length_le (by omega)]
    exact rBytes_app l _ _ rfl
theorem rByte_cut (x : Int) (r : List Int) (k : Nat) : rByte 0 ((x :: r).take k) = if k = 0 then (0, 3, []) else (x, 0, r.take (k - 1)) := by
  cases k with
  | zero => rfl
  | succ k => rfl
theorem idR_app (l r : List Int) (h : l.length = 8) : idR 0 (8 :: (l ++ r)) = (l, 0, r) := by
  unfold idR
  show rBytes (if (8 : Int) ≠ 8 then rFail 5 0 else 0) (l ++ r) 8 = _
  rw [if_neg (by decide)]
  exact rBytes_app l r 8 (by omega)

/-! ### what is short stays short -/
theorem rByte_dead (x : List Int) : rByte 3 x = (0, 3, x) := rfl
theorem rBytes_dead (x : List Int) (n : Int) : rBytes 3 x n = ([], 3, x) := rfl
theorem idR_dead (x : List Int) : idR 3 x = ([], 3, x) := rfl
theorem rNum_dead (x : List Int) : (rNum 3 x).2.1 = 3 := by cases x <;> rfl
theorem fin_dead (sp : Int) (l1 l2 : List Int) (B : Int) (n : Int × Int × List Int) (h : n.2.1 = 3 ∨ (n.2.1 = 0 ∧ n.1 > (n.2.2.length : Int))) : fin sp l1 l2 B n = D := by
  obtain ⟨n0, nc, nx⟩ := n
  unfold fin
  rcases h with h | ⟨h1, h2⟩
  · simp only at h
    subst h
    simp [D]
  · simp only at h1 h2
    subst h1
    simp only [h2, and_self, if_true]
    simp [D, rFail]
theorem tailN_dead (sp : Int) (l1 l2 : List Int) (B : Int) (x : List Int) : tailN sp l1 l2 B 3 x = D := fin_dead _ _ _ _ _ (.inl (rNum_dead x))
theorem tailZ_dead (sp : Int) (l1 l2 : List Int) (B : Int) (x : List Int) : tailZ sp l1 l2 B 3 x = D := by
  unfold tailZ
  by_cases h : sp = 0
  · simp only [if_pos h]; exact tailN_dead _ _ _ _ _
  · simp only [if_neg h]; exact tailN_dead _ _ _ _ _
theorem tailF_dead (sp : Int) (l1 : List Int) (B : Int) (x : List Int) : tailF sp l1 B 3 x = D := tailZ_dead _ _ _ _ _
theorem tailT_dead (sp : Int) (B : Int) (x : List Int) : tailT sp B 3 x = D := tailF_dead _ _ _ _
theorem tailV_dead (sp : Int) (B : Int) (x : List Int) : tailV sp B 3 x = D := tailT_dead _ _ _

/-! ### the number of bytes behind -/
theorem num2 (n : Int) (r : List Int) (h0 : 0 ≤ n) (h1 : n ≤ 1204) : rNum 0 ((64 + n / 256) :: n % 256 :: r) = (n, 0, r) := by
  have hx : ((64 + n / 256) / 64).toNat = 1 := by omega
  show (numOf (rBytes 0 ((64 + n / 256) :: n % 256 :: r) (2 ^ ((64 + n / 256) / 64).toNat)).1, (rBytes 0 ((64 + n / 256) :: n % 256 :: r) (2 ^ ((64 + n / 256) / 64).toNat)).2) = _
  rw [hx]
  have hb : rBytes 0 ((64 + n / 256) :: n % 256 :: r) (2 ^ 1) = ([64 + n / 256, n % 256], 0, r) := rBytes_app [64 + n / 256, n % 256] r _ (by simp)
  rw [hb]
  show (((64 + n / 256) % 64) * 256 + n % 256, 0, r) = _
  rw [show ((64 + n / 256) % 64) * 256 + n % 256 = n by omega]

theorem num2_cut (n : Int) (r : List Int) (k : Nat) (h0 : 0 ≤ n) (h1 : n ≤ 1204) : (rNum 0 (((64 + n / 256) :: n % 256 :: r).take k)).2.1 = 3 ∨ rNum 0 (((64 + n / 256) :: n % 256 :: r).take k) = (n, 0, r.take (k - 2)) := by
  cases k with
  | zero => exact .inl rfl
  | succ k =>
    cases k with
    | zero =>
      refine .inl ?_
      have hx : ((64 + n / 256) / 64).toNat = 1 := by omega
      show (rBytes 0 [64 + n / 256] (2 ^ ((64 + n / 256) / 64).toNat)).2.1 = 3
      rw [hx]
      rfl
    | succ k => exact .inr (num2 n _ h0 h1)

theorem tailN_cut (sp : Int) (l1 l2 : List Int) (B n : Int) (r : List Int) (k : Nat) (h0 : 0 ≤ n) (h1 : n ≤ 1204) (hr : (r.length : Int) ≤ n) (hk : k < 2 + r.length) : tailN sp l1 l2 B 0 (((64 + n / 256) :: n % 256 :: r).take k) = D := by
  unfold tailN
  rcases num2_cut n r k h0 h1 with h | h
  · exact fin_dead _ _ _ _ _ (.inl h)
  · by_cases hk2 : k < 2
    · rcases (by omega : k = 0 ∨ k = 1) with rfl | rfl
      · exact fin_dead _ _ _ _ _ (.inl rfl)
      · refine fin_dead _ _ _ _ _ (.inl ?_)
        have hx : ((64 + n / 256) / 64).toNat = 1 := by omega
        show (rBytes 0 [64 + n / 256] (2 ^ ((64 + n / 256) / 64).toNat)).2.1 = 3
        rw [hx]
        rfl
    · rw [h]
      refine fin_dead _ _ _ _ _ (.inr ⟨rfl, ?_⟩)
      show n > ((r.take (k - 2)).length : Int)
      rw [List.length_take]
      omega

theorem tailZ_cut (sp : Int) (l1 l2 : List Int) (B : Int) (x : List Int) (m : Nat) (hx : ∀ k, k < m → tailN sp l1 l2 B 0 (x.take k) = D) (k : Nat) (hk : k < (if sp = 0 then [0] else ([] : List Int)).length + m) :
    tailZ sp l1 l2 B 0 (((if sp = 0 then [0] else []) ++ x).take k) = D := by
  unfold tailZ
  by_cases h : sp = 0
  · simp only [if_pos h] at hk ⊢
    simp only [List.length_cons, List.length_nil] at hk
    show tailN sp l1 l2 B (if (rByte 0 ((0 :: x).take k)).1 ≠ 0 then rFail 5 (rByte 0 ((0 :: x).take k)).2.1 else (rByte 0 ((0 :: x).take k)).2.1) (rByte 0 ((0 :: x).take k)).2.2 = D
    rw [rByte_cut]
    by_cases hk0 : k = 0
    · simp only [if_pos hk0]; exact tailN_dead _ _ _ _ _
    · simp only [if_neg hk0]; exact hx _ (by omega)
  · simp only [if_neg h] at hk ⊢
    exact hx k (by simpa using hk)

theorem idR_cut (l r : List Int) (h : l.length = 8) (k : Nat) : (idR 0 ((8 :: (l ++ r)).take k)).2.1 = 3 ∨ (9 ≤ k ∧ idR 0 ((8 :: (l ++ r)).take k) = (l, 0, r.take (k - 9))) := by
  unfold idR
  rw [rByte_cut]
  by_cases hk0 : k = 0
  · simp only [if_pos hk0]; exact .inl rfl
  · simp only [if_neg hk0]
    show (rBytes 0 ((l ++ r).take (k - 1)) 8).2.1 = 3 ∨ (9 ≤ k ∧ rBytes 0 ((l ++ r).take (k - 1)) 8 = _)
    rw [rBytes_cut l r 8 (k - 1) (by omega)]
    by_cases hk9 : k - 1 < l.length
    · rw [if_pos hk9]; exact .inl rfl
    · rw [if_neg hk9]
      refine .inr ⟨by omega, ?_⟩
      rw [h, show k - 1 - 8 = k - 9 by omega]

theorem tailF_cut (sp : Int) (l1 l r : List Int) (B : Int) (m : Nat) (h : l.length = 8) (hx : ∀ k, k < m → tailZ sp l1 l B 0 (r.take k) = D) (k : Nat) (hk : k < 9 + m) : tailF sp l1 B 0 ((8 :: (l ++ r)).take k) = D := by
  unfold tailF
  rcases idR_cut l r h k with h1 | ⟨h9, h1⟩
  · rw [h1]; exact tailZ_dead _ _ _ _ _
  · rw [h1]; exact hx _ (by omega)

theorem tailT_cut (sp : Int) (l r : List Int) (B : Int) (m : Nat) (h : l.length = 8) (hx : ∀ k, k < m → tailF sp l B 0 (r.take k) = D) (k : Nat) (hk : k < 9 + m) : tailT sp B 0 ((8 :: (l ++ r)).take k) = D := by
  unfold tailT
  rcases idR_cut l r h k with h1 | ⟨h9, h1⟩
  · rw [h1]; exact tailF_dead _ _ _ _
  · rw [h1]; exact hx _ (by omega)

theorem tailV_cut (sp : Int) (r : List Int) (B : Int) (m : Nat) (hx : ∀ k, k < m → tailT sp B 0 (r.take k) = D) (k : Nat) (hk : k < 4 + m) : tailV sp B 0 (([0, 0, 0, 1] ++ r).take k) = D := by
  unfold tailV
  rw [rBytes_cut [0, 0, 0, 1] r 4 k rfl]
  by_cases hk4 : k < ([0, 0, 0, 1] : List Int).length
  · rw [if_pos hk4]; exact tailT_dead _ _ _
  · rw [if_neg hk4]
    exact hx _ (by simp only [List.length_cons, List.length_nil] at hk4 ⊢; omega)

theorem first_bits (sp bytes : Int) (hsp : sp = 0 ∨ sp = 1) (b1 : 1 ≤ bytes) (b4 : bytes ≤ 4) :
    bits .and .u8 (192 + 32 * sp + (bytes - 1)) 128 ≠ 0 ∧ bits .and .u8 (192 + 32 * sp + (bytes - 1)) 80 = 64 ∧ bits .and .u8 ((192 + 32 * sp + (bytes - 1)) / 32) 1 = sp := by
  rcases (by omega : bytes = 1 ∨ bytes = 2 ∨ bytes = 3 ∨ bytes = 4) with rfl | rfl | rfl | rfl <;> rcases hsp with rfl | rfl <;> decide +kernel

/-- A long head, cut, is short. -/
theorem long_cut (sp bytes size : Int) (tt ff t : List Int) (hsp : sp = 0 ∨ sp = 1) (ht : tt.length = 8) (hf : ff.length = 8) (b1 : 1 ≤ bytes) (b4 : bytes ≤ 4) (z0 : 0 ≤ size) (z1 : size ≤ 1200) (hl : t.length = bytes.toNat) (k : Nat) (hk : k < (longB sp bytes size tt ff t).length) :
    takeR ((longB sp bytes size tt ff t).take k) = D := by
  obtain ⟨f1, f2, f3⟩ := first_bits sp bytes hsp b1 b4
  have hlen : (longB sp bytes size tt ff t).length = 1 + (4 + (9 + (9 + ((if sp = 0 then [0] else ([] : List Int)).length + (2 + t.length))))) := by
    unfold longB
    simp only [List.length_cons, List.length_append, List.length_nil, ht, hf]
    omega
  rw [hlen] at hk
  unfold takeR
  cases k with
  | zero =>
    have e1 : bits .and .u8 0 128 = 0 := by decide +kernel
    have e2 : bits .and .u8 0 64 = 0 := by decide +kernel
    simp [takeS, rByte, e1, e2, rFail, rBytes, D]
  | succ k =>
    have hB : rByte 0 ((longB sp bytes size tt ff t).take (k + 1)) = (192 + 32 * sp + (bytes - 1), 0, ([0, 0, 0, 1] ++ (8 :: (tt ++ (8 :: (ff ++ ((if sp = 0 then [0] else []) ++ ((64 + (bytes + size) / 256) :: (bytes + size) % 256 :: t))))))).take k) := rfl
    rw [takeL_is, hB]
    simp only []
    rw [if_neg f1, if_neg (by simp [f2]), f3]
    refine tailV_cut sp _ _ _ (fun k hk => tailT_cut sp tt _ _ _ ht (fun k hk => tailF_cut sp tt ff _ _ _ hf (fun k hk => tailZ_cut sp tt ff _ _ _ (fun k hk => tailN_cut sp tt ff _ (bytes + size) t k (by omega) (by omega) (by omega) hk) k hk) k hk) k hk) k ?_
    omega

/-- A long head is taken, whatever stands behind. -/
theorem long_take (sp bytes size : Int) (tt ff t more : List Int) (hsp : sp = 0 ∨ sp = 1) (ht : tt.length = 8) (hf : ff.length = 8) (b1 : 1 ≤ bytes) (b4 : bytes ≤ 4) (z0 : 0 ≤ size) (z1 : size ≤ 1200) (hl : t.length = bytes.toNat) (hm : size ≤ more.length) :
    takeR (longB sp bytes size tt ff t ++ more) = ⟨sp, tt, ff, ((longB sp bytes size tt ff t).length : Int) - bytes, ((longB sp bytes size tt ff t).length : Int) + size, 0⟩ := by
  obtain ⟨f1, f2, f3⟩ := first_bits sp bytes hsp b1 b4
  have hB : rByte 0 (longB sp bytes size tt ff t ++ more) = (192 + 32 * sp + (bytes - 1), 0, [0, 0, 0, 1] ++ (8 :: (tt ++ (8 :: (ff ++ ((if sp = 0 then [0] else []) ++ ((64 + (bytes + size) / 256) :: (bytes + size) % 256 :: (t ++ more)))))))) := by
    unfold longB
    simp [rByte]
  unfold takeR
  rw [takeL_is, hB]
  simp only []
  rw [if_neg f1, if_neg (by simp [f2]), f3]
  unfold tailV
  rw [rBytes_app [0, 0, 0, 1] _ 4 rfl]
  show tailT sp _ 0 _ = _
  unfold tailT
  rw [idR_app tt _ ht]
  simp only []
  unfold tailF
  rw [idR_app ff _ hf]
  simp only []
  have hz : tailZ sp tt ff ((longB sp bytes size tt ff t ++ more).length : Int) 0 ((if sp = 0 then [0] else []) ++ ((64 + (bytes + size) / 256) :: (bytes + size) % 256 :: (t ++ more))) = tailN sp tt ff ((longB sp bytes size tt ff t ++ more).length : Int) 0 ((64 + (bytes + size) / 256) :: (bytes + size) % 256 :: (t ++ more)) := by
    unfold tailZ
    rcases hsp with rfl | rfl
    · rfl
    · rfl
  rw [hz]
  unfold tailN
  rw [num2 (bytes + size) _ (by omega) (by omega)]
  unfold fin
  have hng : ¬ (bytes + size > ((t ++ more).length : Int)) := by rw [List.length_append]; omega
  simp only [hng, and_false, if_false]
  rw [if_neg (by simp)]
  simp only [List.length_append]
  congr 1 <;> omega

/-- A short head is taken, whatever stands behind. -/
theorem short_take (bytes : Int) (tt t more : List Int) (ht : tt.length = 8) (b1 : 1 ≤ bytes) (b4 : bytes ≤ 4) :
    takeR (shortB bytes tt t ++ more) = ⟨2, tt, [], 9, ((shortB bytes tt t ++ more).length : Int), 0⟩ := by
  have hb : bits .and .u8 (64 + (bytes - 1)) 128 = 0 ∧ bits .and .u8 (64 + (bytes - 1)) 64 ≠ 0 := by
    rcases (by omega : bytes = 1 ∨ bytes = 2 ∨ bytes = 3 ∨ bytes = 4) with rfl | rfl | rfl | rfl <;> decide +kernel
  have hB : rByte 0 (shortB bytes tt t ++ more) = (64 + (bytes - 1), 0, tt ++ (t ++ more)) := by
    unfold shortB
    simp [rByte]
  unfold takeR
  rw [hB]
  simp only []
  rw [if_pos hb.1]
  unfold takeS
  rw [hB]
  simp only []
  rw [if_neg hb.2, rBytes_app tt _ 8 (by omega)]
  simp

theorem long_bd (sp bytes size : Int) (tt ff t : List Int) (hsp : sp = 0 ∨ sp = 1) (b1 : 1 ≤ bytes) (b4 : bytes ≤ 4) (z0 : 0 ≤ size) (z1 : size ≤ 1200) (ht : ∀ x ∈ tt, 0 ≤ x ∧ x < 256) (hf : ∀ x ∈ ff, 0 ≤ x ∧ x < 256) (hx : ∀ x ∈ t, 0 ≤ x ∧ x < 256) : ∀ x ∈ longB sp bytes size tt ff t, 0 ≤ x ∧ x < 256 := by
  intro x h
  unfold longB at h
  simp only [List.mem_cons, List.mem_append, List.not_mem_nil, or_false] at h
  rcases h with rfl | h | rfl | h | rfl | h | h | rfl | rfl | h
  · omega
  · omega
  · omega
  · exact ht x h
  · omega
  · exact hf x h
  · split at h
    · simp at h; omega
    · cases h
  · omega
  · omega
  · exact hx x h

theorem short_bd (bytes : Int) (tt t : List Int) (b1 : 1 ≤ bytes) (b4 : bytes ≤ 4) (ht : ∀ x ∈ tt, 0 ≤ x ∧ x < 256) (hx : ∀ x ∈ t, 0 ≤ x ∧ x < 256) : ∀ x ∈ shortB bytes tt t, 0 ≤ x ∧ x < 256 := by
  intro x h
  unfold shortB at h
  simp only [List.mem_cons, List.mem_append] at h
  rcases h with rfl | h | h
  · omega
  · exact ht x h
  · exact hx x h

end Go.Proofs.Ytmccghadgihbpaa.TakePlain
