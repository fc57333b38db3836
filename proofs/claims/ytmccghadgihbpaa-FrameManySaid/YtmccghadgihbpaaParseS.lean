/- Frames out of bytes: what the program reads, plainly; and a reader beside a frame that is being filled. -/
import Derived.Test.YtmccghadgihbpaaTake
import Derived.Test.YtmccghadgihbpaaPFrameBackx0
namespace Go.Proofs.Ytmccghadgihbpaa.ParseS
open Go Go.RowKit Go.Proofs.Ytmccghadgihbpaa.PFrameBack Go.Proofs.YtmccghadgihbpaaW.PrintWords Go.Proofs.YtmccghadgihbpaaW.PrintLast Go.Proofs.YtmccghadgihbpaaW.PrintMore Go.Proofs.Ytmccghadgihbpaa.Keep Go.Proofs.Ytmccghadgihbpaa.Mem Go.Proofs.Ytmccghadgihbpaa.Reader Go.Proofs.Ytmccghadgihbpaa.Take
set_option linter.unusedVariables false

theorem rNum_bd {c : Int} {xs : List Int} (h : ∀ x ∈ xs, 0 ≤ x ∧ x < 256) : 0 ≤ (rNum c xs).1 ∧ (rNum c xs).1 < 4611686018427387904 := by
  refine ⟨rNum_nn h, ?_⟩
  unfold rNum
  split
  · show (0 : Int) < 4611686018427387904; decide
  · rename_i v r
    have hv := h v (by simp)
    have hsub : ∀ x ∈ (rBytes c (v :: r) (2 ^ (v / 64).toNat)).1, 0 ≤ x ∧ x < 256 := by
      unfold rBytes
      split
      · intro x hx; cases hx
      · split
        · intro x hx; cases hx
        · intro x hx; exact h x (List.mem_of_mem_take hx)
    have hlen : (rBytes c (v :: r) (2 ^ (v / 64).toNat)).1.length ≤ 8 := by
      have h1 := rBytes_take c (v :: r) (2 ^ (v / 64).toNat)
      have h2 : (v / 64).toNat ≤ 3 := by omega
      have h3 : (2 : Int) ^ (v / 64).toNat ≤ 2 ^ 3 := by
        rcases (by omega : (v / 64).toNat = 0 ∨ (v / 64).toNat = 1 ∨ (v / 64).toNat = 2 ∨ (v / 64).toNat = 3) with e | e | e | e <;> rw [e] <;> decide
      omega
    by_cases hn : (rBytes c (v :: r) (2 ^ (v / 64).toNat)).1 = []
    · rw [hn]; show (0 : Int) < 4611686018427387904; decide
    · have h1 := (numOf_bd _ hsub hn).2
      have h2 : 256 ^ (rBytes c (v :: r) (2 ^ (v / 64).toNat)).1.length ≤ 256 ^ 8 := Nat.pow_le_pow_right (by decide) hlen
      have h3 : ((256 ^ (rBytes c (v :: r) (2 ^ (v / 64).toNat)).1.length : Nat) : Int) ≤ ((256 ^ 8 : Nat) : Int) := by exact_mod_cast h2
      have h4 : ((256 ^ 8 : Nat) : Int) = 18446744073709551616 := by decide
      rw [h4] at h3
      have h5 : ((256 ^ (rBytes c (v :: r) (2 ^ (v / 64).toNat)).1.length : Nat) : Int) = (256 : Int) ^ (rBytes c (v :: r) (2 ^ (v / 64).toNat)).1.length := Int.natCast_pow 256 _
      rw [h5] at h3
      omega
theorem rBytes_bd {c : Int} {xs : List Int} {n : Int} (h : ∀ x ∈ xs, 0 ≤ x ∧ x < 256) : ∀ x ∈ (rBytes c xs n).2.2, 0 ≤ x ∧ x < 256 := by
  unfold rBytes
  split
  · exact h
  · split
    · exact h
    · exact fun x hx => h x (List.mem_of_mem_drop hx)
theorem rNum_rest_bd {c : Int} {xs : List Int} (h : ∀ x ∈ xs, 0 ≤ x ∧ x < 256) : ∀ x ∈ (rNum c xs).2.2, 0 ≤ x ∧ x < 256 := by
  unfold rNum
  split
  · intro x hx; cases hx
  · exact rBytes_bd h

/-- Data with its length ahead. -/
def dataR (c : Int) (xs : List Int) : List Int × Int × List Int :=
  rBytes (if (rNum c xs).1 > 2048 then rFail 8 (rNum c xs).2.1 else (rNum c xs).2.1) (rNum c xs).2.2 (rNum c xs).1

/-- The spans behind an ACK's first four numbers. -/
def acksL : Nat → Int → Int → List Int → List S84 → List S84 × Int × List Int
  | 0, lo, hi, xs, acc => if lo > hi then (acc, 5, xs) else (acc ++ [⟨hi - lo, hi⟩], 0, xs)
  | m + 1, lo, hi, xs, acc =>
    if lo > hi then (acc, 5, xs)
    else if (rNum (rNum 0 xs).2.1 (rNum 0 xs).2.2).2.1 ≠ 0 then (acc ++ [⟨hi - lo, hi⟩], (rNum (rNum 0 xs).2.1 (rNum 0 xs).2.2).2)
    else if (rNum 0 xs).1 + 2 > hi - lo then (acc ++ [⟨hi - lo, hi⟩], 5, (rNum (rNum 0 xs).2.1 (rNum 0 xs).2.2).2.2)
    else acksL m (rNum (rNum 0 xs).2.1 (rNum 0 xs).2.2).1 (hi - lo - (rNum 0 xs).1 - 2) (rNum (rNum 0 xs).2.1 (rNum 0 xs).2.2).2.2 (acc ++ [⟨hi - lo, hi⟩])

/-- An ACK: its spans, its number, the fault, what is left. -/
def acksR (c : Int) (xs : List Int) : List S84 × Int × Int × List Int :=
  let h := rNum c xs
  let n := rNum h.2.1 h.2.2
  let m := rNum n.2.1 n.2.2
  let l := rNum m.2.1 m.2.2
  let c4 := if m.1 ≥ 32 then rFail 7 l.2.1 else l.2.1
  if c4 ≠ 0 then ([], n.1, c4, l.2.2)
  else ((acksL m.1.toNat l.1 h.1 l.2.2 []).1, n.1, (acksL m.1.toNat l.1 h.1 l.2.2 []).2)

def fr (k id off n code : Int) (fin : Bool) (data : List Int) (acks : List S84) : S58 := ⟨k, id, off, n, code, fin, data, acks⟩

/-- What a frame of kind k has. -/
def bodyR (k c : Int) (xs : List Int) : S58 × Int × List Int :=
  if k = 0 ∨ k = 1 ∨ k = 30 then (fr k 0 0 0 0 false [] [], c, xs)
  else if k = 2 then (fr k 0 0 (acksR c xs).2.1 0 false [] (acksR c xs).1, (acksR c xs).2.2)
  else if k = 4 then
    let a := rNum c xs
    let b := rNum a.2.1 a.2.2
    let n := rNum b.2.1 b.2.2
    (fr k a.1 0 n.1 b.1 false [] [], n.2)
  else if k = 5 then
    let a := rNum c xs
    let b := rNum a.2.1 a.2.2
    (fr k a.1 0 0 b.1 false [] [], b.2)
  else if k = 6 then
    let a := rNum c xs
    let b := dataR a.2.1 a.2.2
    (fr k 0 a.1 0 0 false b.1 [], b.2)
  else if k = 10 ∨ k = 11 then
    let a := rNum c xs
    let b := dataR a.2.1 a.2.2
    (fr 8 a.1 0 0 0 (k == 11) b.1 [], b.2)
  else if k = 14 ∨ k = 15 then
    let a := rNum c xs
    let o := rNum a.2.1 a.2.2
    let b := dataR (if o.1 = 0 then rFail 5 o.2.1 else o.2.1) o.2.2
    (fr 8 a.1 o.1 0 0 (k == 15) b.1 [], b.2)
  else if k = 16 ∨ k = 18 then (fr k 0 0 (rNum c xs).1 0 false [] [], (rNum c xs).2)
  else if k = 17 then
    let a := rNum c xs
    let b := rNum a.2.1 a.2.2
    (fr k a.1 0 b.1 0 false [] [], b.2)
  else if k = 28 then
    let a := rNum c xs
    let b := dataR a.2.1 a.2.2
    (fr k 0 0 0 a.1 false b.1 [], b.2)
  else (fr k 0 0 0 0 false [] [], rFail 6 c, xs)

/-- A frame's place is not too far. -/
def farR (r : S58 × Int × List Int) : S58 × Int × List Int :=
  (r.1, (if r.1.f2 > 4611686018427387903 - (r.1.f6.length : Int) then rFail 2 r.2.1 else r.2.1), r.2.2)

/-- The next frame. -/
def oneR (c : Int) (xs : List Int) : S58 × Int × List Int := farR (bodyR (rNum c xs).1 (rNum c xs).2.1 (rNum c xs).2.2)

/-- Bytes as frames. -/
def parseL : Nat → List Int → List S58 → List S58 × Int
  | 0, _, out => (out, 0)
  | n + 1, xs, out =>
    if xs = [] then (out, 0)
    else if (oneR 0 xs).2.1 ≠ 0 then ([], (oneR 0 xs).2.1)
    else if (oneR 0 xs).1.f0 = 0 then parseL n (oneR 0 xs).2.2 out
    else if out.length = 64 then ([], 7)
    else parseL n (oneR 0 xs).2.2 (out ++ [(oneR 0 xs).1])
def parseR (xs : List Int) : List S58 × Int := parseL xs.length xs []

/-! ### the reader beside a frame that is being filled -/
def boxOf (x : S58) (v6 v7 : Value) : Array Value := #[.int .u64 x.f0, .int .u64 x.f1, .int .u64 x.f2, .int .u64 x.f3, .int .u64 x.f4, .bool x.f5, v6, v7]

structure St (w0 w : World) (p d fb : Nat) (c : Int) (xs : List Int) (x : S58) (v6 v7 : Value) : Prop where
  rdr : Rdr w p d c xs
  blk : w.heap[fb]? = some (.cells (boxOf x v6 v7) 58 (0, 0))
  r6 : RB w (fb + 1) v6 x.f6
  r7 : k84.R 84 w (fb + 1) (fun _ => True) v7 x.f7
  kp : Kp p w0 w
  fb0 : w0.heap.size ≤ fb
  p0 : p < w0.heap.size
  d0 : d < w0.heap.size

theorem St.keep {w0 w w' : World} {p d fb : Nat} {c c' : Int} {xs xs' : List Int} {x : S58} {v6 v7 : Value} (s : St w0 w p d fb c xs x v6 v7) (k : Kp p w w') (r : Rdr w' p d c' xs') : St w0 w' p d fb c' xs' x v6 v7 :=
  ⟨r, k.blk s.blk (by have := s.fb0; have := s.p0; omega), k.R s.r6 (by have := s.fb0; have := s.p0; omega), k.R s.r7 (by have := s.fb0; have := s.p0; omega), s.kp.trans k, s.fb0, s.p0, s.d0⟩

/-- A field is written. -/
theorem St.put {w0 w : World} {p d fb : Nat} {c : Int} {xs : List Int} {x y : S58} {v6 v7 u6 u7 u : Value} (s : St w0 w p d fb c xs x v6 v7) (i : Nat) (hi : (boxOf x v6 v7).setIfInBounds i u = boxOf y u6 u7) (h6 : RB w (fb + 1) u6 y.f6) (h7 : k84.R 84 w (fb + 1) (fun _ => True) u7 y.f7) :
    St w0 (w.setCell ⟨fb, i, none⟩ u) p d fb c xs y u6 u7 := by
  have hb := blk_set s.blk i u
  rw [hi] at hb
  have hkp : Kp fb w (w.setCell ⟨fb, i, none⟩ u) := (Kp.refl fb w).set i u
  have h1 := s.fb0; have h2 := s.p0; have h3 := s.d0
  refine ⟨s.rdr.keep hkp (by omega) (by omega), hb, hkp.R h6 (by omega), hkp.R h7 (by omega), ⟨s.kp.os, s.kp.tape, s.kp.output, Nat.le_trans s.kp.size hkp.size, fun k hk hp => ?_⟩, h1, h2, h3⟩
  rw [hkp.block k (Nat.lt_of_lt_of_le hk s.kp.size) (by omega)]
  exact s.kp.block k hk hp

/-- The whole frame is written onto itself. -/
theorem St.again {w0 w : World} {p d fb : Nat} {c : Int} {xs : List Int} {x : S58} {v6 v7 : Value} (s : St w0 w p d fb c xs x v6 v7) :
    St w0 ((((((((w.setCell ⟨fb, 0, none⟩ (.int .u64 x.f0)).setCell ⟨fb, 1, none⟩ (.int .u64 x.f1)).setCell ⟨fb, 2, none⟩ (.int .u64 x.f2)).setCell ⟨fb, 3, none⟩ (.int .u64 x.f3)).setCell ⟨fb, 4, none⟩ (.int .u64 x.f4)).setCell ⟨fb, 5, none⟩ (.bool x.f5)).setCell ⟨fb, 6, none⟩ v6).setCell ⟨fb, 7, none⟩ v7) p d fb c xs x v6 v7 := by
  have s0 := s.put 0 (u := .int .u64 x.f0) (y := x) rfl s.r6 s.r7
  have s1 := s0.put 1 (u := .int .u64 x.f1) (y := x) rfl s0.r6 s0.r7
  have s2 := s1.put 2 (u := .int .u64 x.f2) (y := x) rfl s1.r6 s1.r7
  have s3 := s2.put 3 (u := .int .u64 x.f3) (y := x) rfl s2.r6 s2.r7
  have s4 := s3.put 4 (u := .int .u64 x.f4) (y := x) rfl s3.r6 s3.r7
  have s5 := s4.put 5 (u := .bool x.f5) (y := x) rfl s4.r6 s4.r7
  have s6 := s5.put 6 (u := v6) (y := x) rfl s5.r6 s5.r7
  exact s6.put 7 (u := v7) (y := x) rfl s6.r6 s6.r7

theorem num_st {w0 w : World} {p d fb : Nat} {c : Int} {xs : List Int} {x : S58} {v6 v7 : Value} (s : St w0 w p d fb c xs x v6 v7) (hl : xs.length ≤ 140737488355328) :
    Calls Try.prog 29 #[.pointer (some ⟨p, 0, none⟩)] w fun e w' => e = .returned (.int .u64 (rNum c xs).1) ∧ St w0 w' p d fb (rNum c xs).2.1 (rNum c xs).2.2 x v6 v7 := by
  refine (num_calls s.rdr hl).mono ?_
  rintro e w' ⟨rfl, r, k⟩
  exact ⟨rfl, s.keep k r⟩
theorem fail_st {w0 w : World} {p d fb : Nat} {c : Int} {xs : List Int} {x : S58} {v6 v7 : Value} (s : St w0 w p d fb c xs x v6 v7) (n : Int) :
    Calls Try.prog 33 #[.pointer (some ⟨p, 0, none⟩), .int .i64 n] w fun e w' => e = .returned (.tuple #[]) ∧ St w0 w' p d fb (rFail n c) xs x v6 v7 := by
  refine (fail_calls s.rdr n).mono ?_
  rintro e w' ⟨rfl, r, k⟩
  exact ⟨rfl, s.keep k r⟩
theorem code_st {w0 w : World} {p d fb : Nat} {c : Int} {xs : List Int} {x : S58} {v6 v7 : Value} (s : St w0 w p d fb c xs x v6 v7) :
    Calls Try.prog 31 #[.pointer (some ⟨p, 0, none⟩)] w fun e w' => e = .returned (.int .i64 c) ∧ w = w' := code_calls s.rdr

/-- A frame's place, new. -/
theorem St.new {w0 w : World} {p d : Nat} {c : Int} {xs : List Int} (r : Rdr w p d c xs) (k : Kp p w0 w) (hp : p < w0.heap.size) (hd : d < w0.heap.size) :
    St w0 (w.alloc (.cells #[.int .u64 0, .int .u64 0, .int .u64 0, .int .u64 0, .int .u64 0, .bool false, .slice none 0 0, .slice none 0 0] 58)) p d w.heap.size c xs z58 (.slice none 0 0) (.slice none 0 0) :=
  have B := (Below.refl w.heap.size w).alloc (Nat.le_refl _) (.cells #[.int .u64 0, .int .u64 0, .int .u64 0, .int .u64 0, .int .u64 0, .bool false, .slice none 0 0, .slice none 0 0] 58)
  ⟨r.below B, heap_alloc_new _ _, Kd.R_nil _ _ _ _ _, Kd.R_nil _ _ _ _ _, k.trans (Kp.of_below B), k.size, hp, hd⟩
end Go.Proofs.Ytmccghadgihbpaa.ParseS
