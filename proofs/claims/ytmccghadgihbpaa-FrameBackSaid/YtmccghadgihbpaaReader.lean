/- The reader of short numbers: what each of its methods does, out of its fault and the bytes that are left. -/
import Derived.Test.YtmccghadgihbpaaRows
import Derived.Test.YtmccghadgihbpaaKeep
import Derived.Test.YtmccghadgihbpaaMem
import Derived.WalkLawsBesides
import Derived.WalkSpells
import Derived.Lib.Hide
import Derived.Laws.BitsAllLaws
import Derived.BigQuiet
import Derived.Deep.QuietTactic
namespace Go.Proofs.Ytmccghadgihbpaa.Reader
open Go Go.RowKit Go.Proofs.YtmccghadgihbpaaW.PrintWords Go.Proofs.YtmccghadgihbpaaW.PrintLast Go.Proofs.YtmccghadgihbpaaW.PrintMore Go.Proofs.Ytmccghadgihbpaa.Keep Go.Proofs.Ytmccghadgihbpaa.Mem
set_option linter.unusedVariables false

/-! ### the reader, plain: its fault, what is left -/
def rFail (c code : Int) : Int := if code = 0 then c else code
def rBytes (code : Int) (xs : List Int) (n : Int) : List Int × Int × List Int :=
  if code ≠ 0 then ([], code, xs) else if n > (xs.length : Int) then ([], 3, xs) else (xs.take n.toNat, 0, xs.drop n.toNat)

/-- The reader at block p, its bytes in block d (if there are any): its fault, and what is left. -/
def Rdr (w : World) (p d : Nat) (code : Int) (xs : List Int) : Prop :=
  p < w.heap.size ∧ (∀ x ∈ xs, 0 ≤ x ∧ x < 256) ∧ ∃ A c, w.heap[p]? = some (.cells #[.slice A xs.length c, .int .i64 code] 82 (0, 0)) ∧ xs.length ≤ c ∧ Kd.C (Kd.int .u8) w A xs.length xs ∧ (∀ a, A = some a → 0 < xs.length → a.block = d ∧ d ≠ p)

theorem Rdr.stays {w w' : World} {p d : Nat} {code : Int} {xs : List Int} (h : Rdr w p d code xs) (hs : w.heap.size ≤ w'.heap.size) (hp : w'.heap[p]? = w.heap[p]?) (hd : d < w.heap.size → w'.heap[d]? = w.heap[d]?) : Rdr w' p d code xs := by
  obtain ⟨h1, h4, A, c, hb, hc, hC, hA⟩ := h
  exact ⟨by omega, h4, A, c, hp.trans hb, hc, C_of_block hC (fun a ha hn => by
    have h5 : a.block < w.heap.size := by subst ha; exact C_lt hC hn
    rw [(hA a ha hn).1] at h5 ⊢
    exact hd h5), hA⟩
theorem Rdr.below {w w' : World} {p d : Nat} {code : Int} {xs : List Int} (h : Rdr w p d code xs) (hb : Below w.heap.size w w') : Rdr w' p d code xs :=
  h.stays hb.size (hb.block p h.1) (hb.block d)
theorem Rdr.keep {w w' : World} {p d q : Nat} {code : Int} {xs : List Int} (h : Rdr w p d code xs) (hk : Kp q w w') (hp : p ≠ q) (hd : d ≠ q) : Rdr w' p d code xs :=
  h.stays hk.size (hk.block p h.1 hp) (fun hl => hk.block d hl hd)

theorem left_calls {w : World} {p d : Nat} {code : Int} {xs : List Int} (h : Rdr w p d code xs) :
    Calls Try.prog 30 #[.pointer (some ⟨p, 0, none⟩)] w fun e w' => e = .returned (.int .i64 xs.length) ∧ w = w' := by
  obtain ⟨h1, h4, A, c, hb, hc, hC, hA⟩ := h
  have k0 := blk_cell hb 0
  have k1 := blk_cell hb 1
  clear hb
  go_enter Try.func30, Try.ntmps30
  go_wp2
  go_ret
  exact ⟨rfl, rfl⟩

theorem code_calls {w : World} {p d : Nat} {code : Int} {xs : List Int} (h : Rdr w p d code xs) :
    Calls Try.prog 31 #[.pointer (some ⟨p, 0, none⟩)] w fun e w' => e = .returned (.int .i64 code) ∧ w = w' := by
  obtain ⟨h1, h4, A, c, hb, hc, hC, hA⟩ := h
  have k0 := blk_cell hb 0
  have k1 := blk_cell hb 1
  clear hb
  go_enter Try.func31, Try.ntmps31
  go_wp2
  go_ret
  exact ⟨rfl, rfl⟩

theorem fail_calls {w : World} {p d : Nat} {code : Int} {xs : List Int} (h : Rdr w p d code xs) (c : Int) :
    Calls Try.prog 33 #[.pointer (some ⟨p, 0, none⟩), .int .i64 c] w fun e w' => e = .returned (.tuple #[]) ∧ Rdr w' p d (rFail c code) xs ∧ Kp p w w' := by
  have H := h
  obtain ⟨h1, h4, A, cc, hb, hc, hC, hA⟩ := h
  have k0 := blk_cell hb 0
  have k1 := blk_cell hb 1
  have f1 := blk_frozen hb 1
  have HB := Lib.hid hb
  have HH := Lib.hid H
  clear hb H
  by_cases hz : code = 0
  · have t0 : (code == 0) = true := by simp [hz]
    have HZ := Lib.hid hz
    clear hz
    go_enter Try.func33, Try.ntmps33
    go_wp2
    go_end0
    refine ⟨rfl, ⟨by simp; omega, h4, A, cc, ?_, hc, ?_, hA⟩, (Kp.refl p w).set 1 _⟩
    · have := blk_set HB.out 1 (Value.int .i64 c)
      rw [this]
      simp [rFail, HZ.out]
    · exact C_keep ((Kp.refl p w).set 1 _) hC (fun a ha hn => by rw [(hA a ha hn).1]; exact (hA a ha hn).2)
  · have t0 : (code == 0) = false := by simp [hz]
    have HZ := Lib.hid hz
    clear hz
    go_enter Try.func33, Try.ntmps33
    go_wp2
    go_end0
    refine ⟨rfl, ?_, Kp.refl p w⟩
    rw [show rFail c code = code by unfold rFail; rw [if_neg HZ.out]]
    exact HH.out

theorem new_calls {w : World} {A : Option Addr} {c : Nat} {xs : List Int} (hr : CB w A xs) (hc : xs.length ≤ c) (hx : ∀ x ∈ xs, 0 ≤ x ∧ x < 256) (hl : xs.length ≤ 140737488355328) :
    Calls Try.prog 28 #[.slice A xs.length c] w fun e w' => ∃ p d, e = .returned (.pointer (some ⟨p, 0, none⟩)) ∧ Rdr w' p d 0 xs ∧ Below w.heap.size w w' ∧ w.heap.size ≤ p ∧ w.heap.size ≤ d := by
  go_enter Try.func28, Try.ntmps28
  go_wp2_with (first
    | ((with_reducible refine gate_dst (N := 3) rfl ?_); refine litB (w0 := w) w.heap.size rfl (N := 3) rfl rfl (Below.refl _ _) (Nat.le_refl _) ?_; intro v1 w1 R1 B1 G1 N1; clear G1 N1)
    | ((with_reducible refine gate_builtin (b := .append) (xs := #[.tmp 3, .tmp 4]) rfl ?_); refine appB (w0 := w) w.heap.size rfl _ _ rfl (A := A) (ys := xs) R1 rfl rfl rfl (Kd.C_below hr B1) B1 B1.size (by simp; omega) ?_; intro v2 w2 R2 B2 G2 N2; clear G2 N2 R1 B1 hr; obtain ⟨A2, c2, rfl, hc2, C2, hA2⟩ := R2.read; clear R2))
  go_ret
  have hn := heap_alloc_new w2 (.cells #[.slice A2 xs.length c2, .int .i64 0] 82)
  refine ⟨w2.heap.size, match A2 with | some a => a.block | none => w2.heap.size + 1, rfl, ⟨by simp, hx, A2, c2, hn, hc2, Kd.C_alloc C2 _, ?_⟩, B2.alloc B2.size _, B2.size, ?_⟩
  · rintro a rfl _
    have := (hA2 a rfl).2
    exact ⟨rfl, by show a.block ≠ w2.heap.size; omega⟩
  · have := B2.size
    cases A2 with
    | none => show w.heap.size ≤ w2.heap.size + 1; omega
    | some a => exact (hA2 a rfl).1

theorem bytes_calls {w : World} {p d : Nat} {code : Int} {xs : List Int} (h : Rdr w p d code xs) (n : Int) (hn : 0 ≤ n) (hl : xs.length ≤ 140737488355328) :
    Calls Try.prog 34 #[.pointer (some ⟨p, 0, none⟩), .int .u64 n] w fun e w' => ∃ v, e = .returned v ∧ RB w' w.heap.size v (rBytes code xs n).1 ∧ Rdr w' p d (rBytes code xs n).2.1 (rBytes code xs n).2.2 ∧ Kp p w w' := by
  have H := h
  obtain ⟨h1, h4, A, c, hb, hc, hC, hA⟩ := h
  have k0 := blk_cell hb 0
  have k1 := blk_cell hb 1
  have f0 := blk_frozen hb 0
  have HB := Lib.hid hb
  have HH := Lib.hid H
  have HN := Lib.hid hl
  clear hb H
  by_cases hz : code = 0
  · have t0 : (code != 0) = false := by simp [hz]
    have HZ := Lib.hid hz
    by_cases hgt : n > (xs.length : Int)
    · have e1 : rBytes code xs n = ([], 3, xs) := by unfold rBytes; rw [if_neg (by simp [hz]), if_pos hgt]
      rw [e1]
      clear hz e1
      go_enter Try.func34, Try.ntmps34
      go_wp2_with fail
      refine (fail_calls HH.out 3).mono ?_
      rintro e w1 ⟨rfl, R1, K1⟩
      go_wp2
      go_ret
      refine ⟨_, rfl, Kd.R_nil _ _ _ _ _, ?_, K1⟩
      rw [show rFail 3 code = 3 by unfold rFail; rw [if_pos HZ.out]] at R1
      exact R1
    · have e1 : rBytes code xs n = (xs.take n.toNat, 0, xs.drop n.toNat) := by unfold rBytes; rw [if_neg (by simp [hz]), if_neg hgt]
      rw [e1]
      clear e1
      obtain ⟨m, rfl⟩ := Int.eq_ofNat_of_zero_le hn
      have hm : m ≤ xs.length := by omega
      have hle : ¬ (m : Int) > (xs.length : Int) := hgt
      simp only [Int.toNat_natCast]
      have hw : IntKind.u64.wrap (xs.length : Int) = xs.length := by rw [IntKind.wrap_u64]; omega
      have htk := takeB .u64 (A := A) (c := c) hm hc
      obtain ⟨A', hct, hC', hA'⟩ := cutB .u64 hm hc hC
      have HA' := Lib.hid hA'
      have HA := Lib.hid hA
      have HX := Lib.hid h4
      clear hz hgt hA hA' h4
      go_enter Try.func34, Try.ntmps34
      go_wp2_with (first
        | ((with_reducible refine gate_dst (N := 25) rfl ?_); refine litB (w0 := w) w.heap.size rfl (N := 25) rfl rfl (Below.refl _ _) (Nat.le_refl _) ?_; intro v1 w1 R1 B1 G1 N1; clear G1 N1; have j0 := pw_cell_below B1 k0; have HB1 := Lib.hid B1)
        | ((with_reducible refine gate_builtin (b := .append) (xs := #[.tmp 25, .tmp 31]) rfl ?_); refine appB (w0 := w) w.heap.size rfl _ _ rfl (A := A) (ys := xs.take m) R1 rfl rfl (by simp; omega) (Kd.C_below (Kd.C_take hC hm) B1) B1 B1.size (by have := HN.out; simp; omega) ?_; intro v2 w2 R2 B2 G2 N2; clear G2 N2 R1 j0 HB1 B1; have j0 := pw_cell_below B2 k0; have HB2 := Lib.hid B2; have HR2 := Lib.hid R2; have f0 := (B2.frozen (p := ⟨p, 0, none⟩) h1).trans f0; clear B2 R2))
      go_ret
      have hb2 : w2.heap[p]? = some _ := (HB2.out.block p h1).trans HB.out
      refine ⟨_, rfl, ?_, ⟨?_, fun x hx => HX.out x (List.mem_of_mem_drop hx), A', c - m, ?_, by simp; omega, ?_, ?_⟩, (Kp.of_below HB2.out).set 0 _⟩
      · have := Kd.R_set HR2.out hb2 (by decide) 0 (Value.slice A' (xs.length - m) (c - m))
        exact this
      · have := HB2.out.size
        simp [World.setCell]; omega
      · have := blk_set hb2 0 (Value.slice A' (xs.length - m) (c - m))
        rw [HZ.out] at this
        simpa using this
      · refine C_keep ((Kp.refl p w2).set 0 _) (Kd.C_below hC' HB2.out) (fun a' ha' hn' => ?_)
        obtain ⟨a, ha, hbl⟩ := HA'.out a' ha'
        have h5 := HA.out a ha (by simp at hn'; omega)
        rw [hbl, h5.1]; exact h5.2
      · rintro a' ha' hn'
        obtain ⟨a, ha, hbl⟩ := HA'.out a' ha'
        have h5 := HA.out a ha (by simp at hn'; omega)
        rw [hbl]; exact h5
  · have t0 : (code != 0) = true := by simp [hz]
    have e1 : rBytes code xs n = ([], code, xs) := by unfold rBytes; rw [if_pos hz]
    rw [e1]
    clear hz e1
    go_enter Try.func34, Try.ntmps34
    go_wp2
    go_ret
    exact ⟨_, rfl, Kd.R_nil _ _ _ _ _, HH.out, Kp.refl _ _⟩

def rByte (code : Int) (xs : List Int) : Int × Int × List Int :=
  if code ≠ 0 then (0, code, xs) else match xs with | [] => (0, 3, []) | x :: r => (x, 0, r)

theorem byte_calls {w : World} {p d : Nat} {code : Int} {xs : List Int} (h : Rdr w p d code xs) (hl : xs.length ≤ 140737488355328) :
    Calls Try.prog 35 #[.pointer (some ⟨p, 0, none⟩)] w fun e w' => e = .returned (.int .u8 (rByte code xs).1) ∧ Rdr w' p d (rByte code xs).2.1 (rByte code xs).2.2 ∧ Kp p w w' := by
  have key := bytes_calls h 1 (by decide) hl
  by_cases hs : code = 0 ∧ xs ≠ []
  · obtain ⟨rfl, hx⟩ := hs
    obtain ⟨x, r, rfl⟩ := List.exists_cons_of_ne_nil hx
    have e1 : rBytes 0 (x :: r) 1 = ([x], 0, r) := by unfold rBytes; rw [if_neg (by decide), if_neg (by simp; omega)]; rfl
    have e2 : rByte 0 (x :: r) = (x, 0, r) := by simp [rByte]
    rw [e1] at key
    rw [e2]
    have KEY := Lib.hid key
    clear key e1 e2 h hx hl
    go_enter Try.func35, Try.ntmps35
    go_wp2_with fail
    refine KEY.out.mono ?_
    rintro e w1 ⟨v, rfl, R1, D1, K1⟩
    obtain ⟨A, c, rfl, hc, hC, _⟩ := R1.read
    obtain ⟨ad, rfl, hcell⟩ := Kd.at_int hC 0 (by decide) (by simp)
    clear R1 KEY hC
    have e0 : rd [x] 0 = x := rfl
    rw [e0] at hcell
    rw [show ad.add (Int.toNat 0) = ad by simp [Addr.add]] at hcell
    clear e0
    go_wp2
    go_ret
    exact ⟨rfl, D1, K1⟩
  · have e1 : (rBytes code xs 1).1 = [] ∧ (rByte code xs) = (0, (rBytes code xs 1).2) := by
      unfold rBytes rByte
      by_cases hz : code = 0
      · have hx : xs = [] := by
          apply Classical.byContradiction
          intro hx
          exact hs ⟨hz, hx⟩
        subst hx
        simp [hz]
      · simp [hz]
    rw [e1.1] at key
    rw [e1.2]
    have KEY := Lib.hid key
    clear key e1 h hs hl
    generalize rBytes code xs 1 = q at *
    go_enter Try.func35, Try.ntmps35
    go_wp2_with fail
    refine KEY.out.mono ?_
    rintro e w1 ⟨v, rfl, R1, D1, K1⟩
    obtain ⟨A, c, rfl, hc, hC, _⟩ := R1.read
    clear R1 KEY hC
    go_wp2
    go_ret
    exact ⟨rfl, D1, K1⟩

theorem end_calls {w : World} {p d : Nat} {code : Int} {xs : List Int} (h : Rdr w p d code xs) :
    Calls Try.prog 32 #[.pointer (some ⟨p, 0, none⟩)] w fun e w' => e = .returned (.int .i64 (if xs = [] then code else rFail 4 code)) ∧ Kp p w w' := by
  have key := left_calls h
  cases xs with
  | nil =>
    have KEY := Lib.hid key
    have HH := Lib.hid h
    clear key h
    rw [if_pos rfl]
    go_enter Try.func32, Try.ntmps32
    go_wp2_with fail
    refine KEY.out.mono ?_
    rintro e w1 ⟨rfl, rfl⟩
    clear KEY
    go_wp2_with fail
    refine (code_calls HH.out).mono ?_
    rintro e w1 ⟨rfl, rfl⟩
    go_wp2_with fail
    go_ret
    exact ⟨rfl, Kp.refl _ _⟩
  | cons x r =>
    have KEY := Lib.hid key
    have HH := Lib.hid h
    have hp : 0 < ((x :: r).length : Int) := by simp only [List.length_cons]; omega
    have e0 : (if x :: r = [] then code else rFail 4 code) = rFail 4 code := if_neg (by simp)
    rw [e0]
    clear key h e0
    generalize (x :: r) = xs at *
    go_enter Try.func32, Try.ntmps32
    go_wp2_with fail
    refine KEY.out.mono ?_
    rintro e w1 ⟨rfl, rfl⟩
    clear KEY
    go_wp2_with fail
    refine (fail_calls HH.out 4).mono ?_
    rintro e w1 ⟨rfl, R1, K1⟩
    have HR1 := Lib.hid R1
    clear R1 HH
    go_wp2_with fail
    refine (code_calls HR1.out).mono ?_
    rintro e w2 ⟨rfl, rfl⟩
    go_wp2_with fail
    go_ret
    exact ⟨rfl, K1⟩

/-- The number of bytes: the first byte's two highest bits are its length's. -/
def numOf : List Int → Int
  | [] => 0
  | b :: r => r.foldl (fun n c => n * 256 + c) (b % 64)

theorem numOf_snoc (l : List Int) (c : Int) (h : l ≠ []) : numOf (l ++ [c]) = numOf l * 256 + c := by
  cases l with
  | nil => exact absurd rfl h
  | cons b r => simp [numOf, List.foldl_append]

theorem numOf_bd (l : List Int) (hl : ∀ x ∈ l, 0 ≤ x ∧ x < 256) : l ≠ [] → 0 ≤ numOf l ∧ (numOf l) * 4 + 4 ≤ 256 ^ l.length := by
  cases l with
  | nil => exact fun h => absurd rfl h
  | cons b r =>
    intro _
    have key : ∀ (r : List Int) (n : Int) (k : Nat), (∀ x ∈ r, 0 ≤ x ∧ x < 256) → 0 ≤ n → n * 4 + 4 ≤ 256 ^ k → 0 ≤ r.foldl (fun n c => n * 256 + c) n ∧ (r.foldl (fun n c => n * 256 + c) n) * 4 + 4 ≤ 256 ^ (k + r.length) := by
      intro r
      induction r with
      | nil => intro n k _ h0 h1; exact ⟨h0, by simpa using h1⟩
      | cons c r ih =>
        intro n k hr h0 h1
        have hc := hr c (by simp)
        have := ih (n * 256 + c) (k + 1) (fun x hx => hr x (by simp [hx])) (by omega) (by rw [Int.pow_succ]; omega)
        simpa [Nat.add_assoc, Nat.add_comm 1] using this
    have := key r (b % 64) 1 (fun x hx => hl x (by simp [hx])) (by omega) (by omega)
    simp only [numOf, List.length_cons]
    rw [Nat.add_comm]
    exact this

theorem or_low (n c : Int) (h0 : 0 ≤ n) (h1 : n ≤ 18014398509481983) (c0 : 0 ≤ c) (c1 : c < 256) : bits .or .u64 (n * 256) c = n * 256 + c := by
  obtain ⟨n, rfl⟩ := Int.eq_ofNat_of_zero_le h0
  obtain ⟨c, rfl⟩ := Int.eq_ofNat_of_zero_le c0
  have := Nat.two_pow_add_eq_or_of_lt (i := 8) (b := c) (by omega) n
  have e := u64_or_nat (n * 256) c (by omega) (by omega)
  rw [show ((n : Int) * 256) = ((n * 256 : Nat) : Int) by simp, e, Nat.mul_comm n 256, ← this]
  simp

def rNum (code : Int) (xs : List Int) : Int × Int × List Int :=
  match xs with
  | [] => (0, rFail 3 code, [])
  | x :: r => (numOf (rBytes code (x :: r) (2 ^ (x / 64).toNat)).1, (rBytes code (x :: r) (2 ^ (x / 64).toNat)).2)

theorem num_calls {w : World} {p d : Nat} {code : Int} {xs : List Int} (h : Rdr w p d code xs) (hl : xs.length ≤ 140737488355328) :
    Calls Try.prog 29 #[.pointer (some ⟨p, 0, none⟩)] w fun e w' => e = .returned (.int .u64 (rNum code xs).1) ∧ Rdr w' p d (rNum code xs).2.1 (rNum code xs).2.2 ∧ Kp p w w' := by
  have key := left_calls h
  cases xs with
  | nil =>
    have KEY := Lib.hid key
    have HH := Lib.hid h
    clear key h
    go_enter Try.func29, Try.ntmps29
    go_wp2_with fail
    refine KEY.out.mono ?_
    rintro e w1 ⟨rfl, rfl⟩
    clear KEY
    go_wp2_with fail
    refine (fail_calls HH.out 3).mono ?_
    rintro e w1 ⟨rfl, R1, K1⟩
    go_wp2_with fail
    go_ret
    exact ⟨rfl, R1, K1⟩
  | cons x r =>
    have hx := h.2.1 x (by simp)
    have hq : x / 64 = 0 ∨ x / 64 = 1 ∨ x / 64 = 2 ∨ x / 64 = 3 := by omega
    have hpw : (0:Int) ≤ 2 ^ (x / 64).toNat := Int.pow_nonneg (by decide)
    have by2 := bytes_calls h (2 ^ (x / 64).toNat) hpw hl
    obtain ⟨h1, h4, A, c, hb, hc, hC, hA⟩ := h
    have k0 := blk_cell hb 0
    obtain ⟨ad, rfl, hcell⟩ := Kd.at_int hC 0 (by decide) (by simp only [List.length_cons]; omega)
    rw [show ad.add (Int.toNat 0) = ad by simp [Addr.add], show rd (x :: r) 0 = x from rfl] at hcell
    have hp : ((x :: r).length : Int) ≠ 0 := by simp only [List.length_cons]; omega
    have hpb : (((x :: r).length : Int) == 0) = false := by simp only [List.length_cons]; rw [beq_eq_false_iff_ne]; omega
    have hn1 : 0 < ((x :: r).length : Int) := by simp only [List.length_cons]; omega
    have er : rNum code (x :: r) = (numOf (rBytes code (x :: r) (2 ^ (x / 64).toNat)).1, (rBytes code (x :: r) (2 ^ (x / 64).toNat)).2) := rfl
    rw [er]
    have KEY := Lib.hid key
    have BY := Lib.hid by2
    have HX := Lib.hid h4
    have HQ := Lib.hid hq
    clear key by2 er h4 hC hA hb hq hpw
    generalize hls : (x :: r) = xs at *
    have HLS := Lib.hid hls
    clear hls hp
    obtain ⟨x0, x1⟩ := hx
    have hbs : (rBytes code xs (2 ^ (x / 64).toNat)).1.length ≤ 8 ∧ ∀ y ∈ (rBytes code xs (2 ^ (x / 64).toNat)).1, 0 ≤ y ∧ y < 256 := by
      unfold rBytes
      split
      · exact ⟨by simp, fun y hy => by simp at hy⟩
      · split
        · exact ⟨by simp, fun y hy => by simp at hy⟩
        · refine ⟨?_, fun y hy => HX.out y (List.mem_of_mem_take hy)⟩
          have : (2 ^ (x / 64).toNat : Int).toNat ≤ 8 := by rcases HQ.out with e | e | e | e <;> rw [e] <;> decide
          simp only [List.length_take]
          omega
    have hw : IntKind.u64.wrap (2 ^ (x / 64).toNat) = 2 ^ (x / 64).toNat := by
      rcases HQ.out with e | e | e | e <;> rw [e] <;> decide +kernel
    have HW := Lib.hid hw
    have HBS := Lib.hid hbs.2
    have hb8 := hbs.1
    clear hw hbs HX HQ
    generalize rBytes code xs (2 ^ (x / 64).toNat) = q at *
    obtain ⟨bs, q2⟩ := q
    simp only at hb8 HBS BY ⊢
    go_enter Try.func29, Try.ntmps29
    go_wp2_with fail
    refine KEY.out.mono ?_
    rintro e w1 ⟨rfl, rfl⟩
    clear KEY
    go_wp2_with fail
    rw [HW.out]
    refine BY.out.mono ?_
    rintro e w1 ⟨v, rfl, R1, D1, K1⟩
    obtain ⟨A1, c1, rfl, hc1, hC1, hA1⟩ := R1.read
    have D1 := Lib.hid D1
    have K1 := Lib.hid K1
    clear R1 BY hcell k0 hn1 hpb HW
    have HC1 := Lib.hid hC1
    clear hC1
    go_wp2_with fail
    go_loop [4, 24] (fun n i => ∃ k : Nat, k ≤ bs.length ∧ i = .int .i64 k ∧ n = .int .u64 (numOf (bs.take k))) (fun _ i => bs.length - (intOf i).toNat)
    case atStart => exact ⟨0, Nat.zero_le _, rfl, rfl⟩
    case round =>
      obtain ⟨k, hk, rfl, rfl⟩ := hrel
      by_cases hlt : k < bs.length
      · obtain ⟨ad1, rfl, hcell⟩ := Kd.at_int HC1.out (k : Int) (Int.natCast_nonneg _) (by omega)
        have hb0 := HBS.out bs[k] (List.getElem_mem hlt)
        have e0 : rd bs (k : Int) = bs[k] := by unfold rd; simp [List.getD_eq_getElem?_getD, List.getElem?_eq_getElem hlt]
        have ets : bs.take (k + 1) = bs.take k ++ [bs[k]] := by rw [List.take_succ_eq_append_getElem hlt]
        rw [e0, Int.toNat_natCast] at hcell
        clear e0
        obtain ⟨b0, b1⟩ := hb0
        by_cases hz : k = 0
        · subst hz
          have EN : Hid (numOf (bs.take (0 + 1)) = bs[0] % 64) := by rw [show Hid (numOf (bs.take (0 + 1)) = bs[0] % 64) = (numOf (bs.take (0 + 1)) = bs[0] % 64) from rfl, ets]; simp [numOf]
          clear ets
          rw [show ad1.add 0 = ad1 by simp [Addr.add]] at hcell
          have z0 : numOf ([] : List Int) = 0 := rfl
          have am := u8_and63 _ b0 b1
          have oz := or_low 0 (bs[0] % 64) (by omega) (by omega) (by omega) (by omega)
          simp only [Int.zero_mul, Int.zero_add] at oz
          go_wp2
          go_round
          case rel => exact ⟨0 + 1, by omega, by go_num, by rw [EN.out]⟩
          case measure => simp [intOf]; omega
        · have hne : bs.take k ≠ [] := by
            intro e
            have := congrArg List.length e
            rw [List.length_take, List.length_nil] at this
            omega
          have hbd := numOf_bd (bs.take k) (fun y hy => HBS.out y (List.mem_of_mem_take hy)) hne
          have EN : Hid (numOf (bs.take (k + 1)) = numOf (bs.take k) * 256 + bs[k]) := by
            show numOf (bs.take (k + 1)) = numOf (bs.take k) * 256 + bs[k]
            rw [ets]; exact numOf_snoc _ _ hne
          have hpk : (256 : Int) ^ (bs.take k).length ≤ 72057594037927936 := by
            have h7 : (bs.take k).length ≤ 7 := by simp only [List.length_take]; omega
            have := Nat.pow_le_pow_right (n := 256) (by decide) h7
            have e7 : (256 : Nat) ^ 7 = 72057594037927936 := by decide
            have e8 : ((256 : Nat) ^ (bs.take k).length : Nat) = ((256 : Int) ^ (bs.take k).length) := by simp
            omega
          obtain ⟨n0, n1⟩ := hbd
          have n2 : numOf (bs.take k) ≤ 18014398509481983 := by omega
          have oz := or_low (numOf (bs.take k)) bs[k] n0 n2 b0 b1
          have OZ := Lib.hid oz
          have k0 : ((k : Int) == 0) = false := by rw [beq_eq_false_iff_ne]; omega
          clear ets hne n1 hpk oz
          generalize numOf (bs.take k) = n at *
          go_wp2
          go_round
          case rel => exact ⟨k + 1, by omega, by go_num, by rw [OZ.out, EN.out]⟩
          case measure => simp [intOf]; omega
      · have hke : k = bs.length := by omega
        subst hke
        clear hlt
        go_wp2
        go_ret
        exact ⟨by simp, D1.out, K1.out⟩
end Go.Proofs.Ytmccghadgihbpaa.Reader
