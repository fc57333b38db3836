/- Frames out of bytes: what the program reads, plainly; and a reader beside a frame that is being filled. -/
import Derived.Test.YtmccghadgihbpaaTake
import Derived.Test.YtmccghadgihbpaaPFrameBackx0
import Derived.Test.YtmccghadgihbpaaMemU
import Derived.Deep.Cut
import Derived.Deep.CutBlock
namespace Go.Proofs.Ytmccghadgihbpaa.ParseS
open Go Go.RowKit Go.Proofs.Ytmccghadgihbpaa.PFrameBack Go.Proofs.YtmccghadgihbpaaW.PrintWords Go.Proofs.YtmccghadgihbpaaW.PrintLast Go.Proofs.YtmccghadgihbpaaW.PrintMore Go.Proofs.Ytmccghadgihbpaa.Keep Go.Proofs.Ytmccghadgihbpaa.Mem Go.Proofs.Ytmccghadgihbpaa.Reader Go.Proofs.Ytmccghadgihbpaa.Take
set_option linter.unusedVariables false

theorem rNum_bd {c : Int} {xs : List Int} (h : ∀ x ∈ xs, 0 ≤ x ∧ x < 256) : 0 ≤ (rNum c xs).1 ∧ (rNum c xs).1 < 4611686018427387904 := by
  refine ⟨rNum_nn h, ?_⟩
  unfold rNum
  split
  · show (0 : Int) < 4611686018427387904; decide
  · rename_i v r
    have hv := h v (by simp)
    have hsub : ∀ x ∈ (rBytes c (v :: r) (2 ^ (v / 64).toNat)).1, 0 ≤ x ∧ x < 256 := by
      unfold rBytes
      split
      · intro x hx; cases hx
      · split
        · intro x hx; cases hx
        · intro x hx; exact h x (List.mem_of_mem_take hx)
    have hlen : (rBytes c (v :: r) (2 ^ (v / 64).toNat)).1.length ≤ 8 := by
      have h1 := rBytes_take c (v :: r) (2 ^ (v / 64).toNat)
      have h2 : (v / 64).toNat ≤ 3 := by omega
      have h3 : (2 : Int) ^ (v / 64).toNat ≤ 2 ^ 3 := by
        rcases (by omega : (v / 64).toNat = 0 ∨ (v / 64).toNat = 1 ∨ (v / 64).toNat = 2 ∨ (v / 64).toNat = 3) with e | e | e | e <;> rw [e] <;> decide
      omega
    by_cases hn : (rBytes c (v :: r) (2 ^ (v / 64).toNat)).1 = []
    · rw [hn]; show (0 : Int) < 4611686018427387904; decide
    · have h1 := (numOf_bd _ hsub hn).2
      have h2 : 256 ^ (rBytes c (v :: r) (2 ^ (v / 64).toNat)).1.length ≤ 256 ^ 8 := Nat.pow_le_pow_right (by decide) hlen
      have h3 : ((256 ^ (rBytes c (v :: r) (2 ^ (v / 64).toNat)).1.length : Nat) : Int) ≤ ((256 ^ 8 : Nat) : Int) := by exact_mod_cast h2
      have h4 : ((256 ^ 8 : Nat) : Int) = 18446744073709551616 := by decide
      rw [h4] at h3
      have h5 : ((256 ^ (rBytes c (v :: r) (2 ^ (v / 64).toNat)).1.length : Nat) : Int) = (256 : Int) ^ (rBytes c (v :: r) (2 ^ (v / 64).toNat)).1.length := Int.natCast_pow 256 _
      rw [h5] at h3
      omega
theorem rBytes_bd {c : Int} {xs : List Int} {n : Int} (h : ∀ x ∈ xs, 0 ≤ x ∧ x < 256) : ∀ x ∈ (rBytes c xs n).2.2, 0 ≤ x ∧ x < 256 := by
  unfold rBytes
  split
  · exact h
  · split
    · exact h
    · exact fun x hx => h x (List.mem_of_mem_drop hx)
theorem rNum_rest_bd {c : Int} {xs : List Int} (h : ∀ x ∈ xs, 0 ≤ x ∧ x < 256) : ∀ x ∈ (rNum c xs).2.2, 0 ≤ x ∧ x < 256 := by
  unfold rNum
  split
  · intro x hx; cases hx
  · exact rBytes_bd h

/-- Data with its length ahead. -/
def dataR (c : Int) (xs : List Int) : List Int × Int × List Int :=
  rBytes (if (rNum c xs).1 > 2048 then rFail 8 (rNum c xs).2.1 else (rNum c xs).2.1) (rNum c xs).2.2 (rNum c xs).1

/-- The spans behind an ACK's first four numbers. -/
def acksL : Nat → Int → Int → List Int → List S84 → List S84 × Int × List Int
  | 0, lo, hi, xs, acc => if lo > hi then (acc, 5, xs) else (acc ++ [⟨hi - lo, hi⟩], 0, xs)
  | m + 1, lo, hi, xs, acc =>
    if lo > hi then (acc, 5, xs)
    else if (rNum (rNum 0 xs).2.1 (rNum 0 xs).2.2).2.1 ≠ 0 then (acc ++ [⟨hi - lo, hi⟩], (rNum (rNum 0 xs).2.1 (rNum 0 xs).2.2).2)
    else if (rNum 0 xs).1 + 2 > hi - lo then (acc ++ [⟨hi - lo, hi⟩], 5, (rNum (rNum 0 xs).2.1 (rNum 0 xs).2.2).2.2)
    else acksL m (rNum (rNum 0 xs).2.1 (rNum 0 xs).2.2).1 (hi - lo - (rNum 0 xs).1 - 2) (rNum (rNum 0 xs).2.1 (rNum 0 xs).2.2).2.2 (acc ++ [⟨hi - lo, hi⟩])

/-- An ACK: its spans, its number, the fault, what is left. -/
def acksR (c : Int) (xs : List Int) : List S84 × Int × Int × List Int :=
  let h := rNum c xs
  let n := rNum h.2.1 h.2.2
  let m := rNum n.2.1 n.2.2
  let l := rNum m.2.1 m.2.2
  let c4 := if m.1 ≥ 32 then rFail 7 l.2.1 else l.2.1
  if c4 ≠ 0 then ([], n.1, c4, l.2.2)
  else ((acksL m.1.toNat l.1 h.1 l.2.2 []).1, n.1, (acksL m.1.toNat l.1 h.1 l.2.2 []).2)

def fr (k id off n code : Int) (fin : Bool) (data : List Int) (acks : List S84) : S58 := ⟨k, id, off, n, code, fin, data, acks⟩

/-- What a frame of kind k has. -/
def bodyR (k c : Int) (xs : List Int) : S58 × Int × List Int :=
  if k = 0 ∨ k = 1 ∨ k = 30 then (fr k 0 0 0 0 false [] [], c, xs)
  else if k = 2 then (fr k 0 0 (acksR c xs).2.1 0 false [] (acksR c xs).1, (acksR c xs).2.2)
  else if k = 4 then
    let a := rNum c xs
    let b := rNum a.2.1 a.2.2
    let n := rNum b.2.1 b.2.2
    (fr k a.1 0 n.1 b.1 false [] [], n.2)
  else if k = 5 then
    let a := rNum c xs
    let b := rNum a.2.1 a.2.2
    (fr k a.1 0 0 b.1 false [] [], b.2)
  else if k = 6 then
    let a := rNum c xs
    let b := dataR a.2.1 a.2.2
    (fr k 0 a.1 0 0 false b.1 [], b.2)
  else if k = 10 ∨ k = 11 then
    let a := rNum c xs
    let b := dataR a.2.1 a.2.2
    (fr 8 a.1 0 0 0 (k == 11) b.1 [], b.2)
  else if k = 14 ∨ k = 15 then
    let a := rNum c xs
    let o := rNum a.2.1 a.2.2
    let b := dataR (if o.1 = 0 then rFail 5 o.2.1 else o.2.1) o.2.2
    (fr 8 a.1 o.1 0 0 (k == 15) b.1 [], b.2)
  else if k = 16 ∨ k = 18 then (fr k 0 0 (rNum c xs).1 0 false [] [], (rNum c xs).2)
  else if k = 17 then
    let a := rNum c xs
    let b := rNum a.2.1 a.2.2
    (fr k a.1 0 b.1 0 false [] [], b.2)
  else if k = 28 then
    let a := rNum c xs
    let b := dataR a.2.1 a.2.2
    (fr k 0 0 0 a.1 false b.1 [], b.2)
  else (fr k 0 0 0 0 false [] [], rFail 6 c, xs)

/-- A frame's place is not too far. -/
def farR (r : S58 × Int × List Int) : S58 × Int × List Int :=
  (r.1, (if r.1.f2 > 4611686018427387903 - (r.1.f6.length : Int) then rFail 2 r.2.1 else r.2.1), r.2.2)

/-- The next frame. -/
def oneR (c : Int) (xs : List Int) : S58 × Int × List Int := farR (bodyR (rNum c xs).1 (rNum c xs).2.1 (rNum c xs).2.2)

/-- Bytes as frames. -/
def parseL : Nat → List Int → List S58 → List S58 × Int
  | 0, _, out => (out, 0)
  | n + 1, xs, out =>
    if xs = [] then (out, 0)
    else if (oneR 0 xs).2.1 ≠ 0 then ([], (oneR 0 xs).2.1)
    else if (oneR 0 xs).1.f0 = 0 then parseL n (oneR 0 xs).2.2 out
    else if out.length = 64 then ([], 7)
    else parseL n (oneR 0 xs).2.2 (out ++ [(oneR 0 xs).1])
def parseR (xs : List Int) : List S58 × Int := parseL xs.length xs []

/-! ### the reader beside a frame that is being filled -/
def boxOf (x : S58) (v6 v7 : Value) : Array Value := #[.int .u64 x.f0, .int .u64 x.f1, .int .u64 x.f2, .int .u64 x.f3, .int .u64 x.f4, .bool x.f5, v6, v7]

structure St (w0 w : World) (p d fb : Nat) (c : Int) (xs : List Int) (x : S58) (v6 v7 : Value) : Prop where
  rdr : Rdr w p d c xs
  blk : w.heap[fb]? = some (.cells (boxOf x v6 v7) 58 (0, 0))
  r6 : RB w (fb + 1) v6 x.f6
  r7 : k84.R 84 w (fb + 1) (fun _ => True) v7 x.f7
  kp : Kp p w0 w
  fb0 : w0.heap.size ≤ fb
  p0 : p < w0.heap.size
  d0 : d < w0.heap.size

theorem St.keep {w0 w w' : World} {p d fb : Nat} {c c' : Int} {xs xs' : List Int} {x : S58} {v6 v7 : Value} (s : St w0 w p d fb c xs x v6 v7) (k : Kp p w w') (r : Rdr w' p d c' xs') : St w0 w' p d fb c' xs' x v6 v7 :=
  ⟨r, k.blk s.blk (by have := s.fb0; have := s.p0; omega), k.R s.r6 (by have := s.fb0; have := s.p0; omega), k.R s.r7 (by have := s.fb0; have := s.p0; omega), s.kp.trans k, s.fb0, s.p0, s.d0⟩

/-- A field is written. -/
theorem St.put {w0 w : World} {p d fb : Nat} {c : Int} {xs : List Int} {x y : S58} {v6 v7 u6 u7 u : Value} (s : St w0 w p d fb c xs x v6 v7) (i : Nat) (hi : (boxOf x v6 v7).setIfInBounds i u = boxOf y u6 u7) (h6 : RB w (fb + 1) u6 y.f6) (h7 : k84.R 84 w (fb + 1) (fun _ => True) u7 y.f7) :
    St w0 (w.setCell ⟨fb, i, none⟩ u) p d fb c xs y u6 u7 := by
  have hb := blk_set s.blk i u
  rw [hi] at hb
  have hkp : Kp fb w (w.setCell ⟨fb, i, none⟩ u) := (Kp.refl fb w).set i u
  have h1 := s.fb0; have h2 := s.p0; have h3 := s.d0
  refine ⟨s.rdr.keep hkp (by omega) (by omega), hb, hkp.R h6 (by omega), hkp.R h7 (by omega), ⟨s.kp.os, s.kp.tape, s.kp.output, Nat.le_trans s.kp.size hkp.size, fun k hk hp => ?_⟩, h1, h2, h3⟩
  rw [hkp.block k (Nat.lt_of_lt_of_le hk s.kp.size) (by omega)]
  exact s.kp.block k hk hp

/-- The whole frame is written onto itself. -/
theorem St.again {w0 w : World} {p d fb : Nat} {c : Int} {xs : List Int} {x : S58} {v6 v7 : Value} (s : St w0 w p d fb c xs x v6 v7) :
    St w0 ((((((((w.setCell ⟨fb, 0, none⟩ (.int .u64 x.f0)).setCell ⟨fb, 1, none⟩ (.int .u64 x.f1)).setCell ⟨fb, 2, none⟩ (.int .u64 x.f2)).setCell ⟨fb, 3, none⟩ (.int .u64 x.f3)).setCell ⟨fb, 4, none⟩ (.int .u64 x.f4)).setCell ⟨fb, 5, none⟩ (.bool x.f5)).setCell ⟨fb, 6, none⟩ v6).setCell ⟨fb, 7, none⟩ v7) p d fb c xs x v6 v7 := by
  have s0 := s.put 0 (u := .int .u64 x.f0) (y := x) rfl s.r6 s.r7
  have s1 := s0.put 1 (u := .int .u64 x.f1) (y := x) rfl s0.r6 s0.r7
  have s2 := s1.put 2 (u := .int .u64 x.f2) (y := x) rfl s1.r6 s1.r7
  have s3 := s2.put 3 (u := .int .u64 x.f3) (y := x) rfl s2.r6 s2.r7
  have s4 := s3.put 4 (u := .int .u64 x.f4) (y := x) rfl s3.r6 s3.r7
  have s5 := s4.put 5 (u := .bool x.f5) (y := x) rfl s4.r6 s4.r7
  have s6 := s5.put 6 (u := v6) (y := x) rfl s5.r6 s5.r7
  exact s6.put 7 (u := v7) (y := x) rfl s6.r6 s6.r7

theorem num_st {w0 w : World} {p d fb : Nat} {c : Int} {xs : List Int} {x : S58} {v6 v7 : Value} (s : St w0 w p d fb c xs x v6 v7) (hl : xs.length ≤ 140737488355328) :
    Calls Try.prog 29 #[.pointer (some ⟨p, 0, none⟩)] w fun e w' => e = .returned (.int .u64 (rNum c xs).1) ∧ St w0 w' p d fb (rNum c xs).2.1 (rNum c xs).2.2 x v6 v7 := by
  refine (num_calls s.rdr hl).mono ?_
  rintro e w' ⟨rfl, r, k⟩
  exact ⟨rfl, s.keep k r⟩
theorem fail_st {w0 w : World} {p d fb : Nat} {c : Int} {xs : List Int} {x : S58} {v6 v7 : Value} (s : St w0 w p d fb c xs x v6 v7) (n : Int) :
    Calls Try.prog 33 #[.pointer (some ⟨p, 0, none⟩), .int .i64 n] w fun e w' => e = .returned (.tuple #[]) ∧ St w0 w' p d fb (rFail n c) xs x v6 v7 := by
  refine (fail_calls s.rdr n).mono ?_
  rintro e w' ⟨rfl, r, k⟩
  exact ⟨rfl, s.keep k r⟩
theorem code_st {w0 w : World} {p d fb : Nat} {c : Int} {xs : List Int} {x : S58} {v6 v7 : Value} (s : St w0 w p d fb c xs x v6 v7) :
    Calls Try.prog 31 #[.pointer (some ⟨p, 0, none⟩)] w fun e w' => e = .returned (.int .i64 c) ∧ w = w' := code_calls s.rdr

/-- A frame's place, new. -/
theorem St.new {w0 w : World} {p d : Nat} {c : Int} {xs : List Int} (r : Rdr w p d c xs) (k : Kp p w0 w) (hp : p < w0.heap.size) (hd : d < w0.heap.size) :
    St w0 (w.alloc (.cells #[.int .u64 0, .int .u64 0, .int .u64 0, .int .u64 0, .int .u64 0, .bool false, .slice none 0 0, .slice none 0 0] 58)) p d w.heap.size c xs z58 (.slice none 0 0) (.slice none 0 0) :=
  have B := (Below.refl w.heap.size w).alloc (Nat.le_refl _) (.cells #[.int .u64 0, .int .u64 0, .int .u64 0, .int .u64 0, .int .u64 0, .bool false, .slice none 0 0, .slice none 0 0] 58)
  ⟨r.below B, heap_alloc_new _ _, Kd.R_nil _ _ _ _ _, Kd.R_nil _ _ _ _ _, k.trans (Kp.of_below B), k.size, hp, hd⟩
end Go.Proofs.Ytmccghadgihbpaa.ParseS

namespace Go.Proofs.Ytmccghadgihbpaa.ParseW
open Go Go.RowKit Go.Proofs.Ytmccghadgihbpaa.PFrameBack Go.Proofs.YtmccghadgihbpaaW.PrintWords Go.Proofs.YtmccghadgihbpaaW.PrintLast Go.Proofs.YtmccghadgihbpaaW.PrintMore Go.Proofs.Ytmccghadgihbpaa.Keep Go.Proofs.Ytmccghadgihbpaa.Mem Go.Proofs.Ytmccghadgihbpaa.Reader Go.Proofs.Ytmccghadgihbpaa.Take Go.Proofs.Ytmccghadgihbpaa.ParseS
set_option linter.unusedVariables false

set_option maxHeartbeats 1000000 in
theorem data_calls {w : World} {p d : Nat} {c : Int} {xs : List Int} (r : Rdr w p d c xs) (hl : xs.length ≤ 10000000) :
    Calls Try.prog 55 #[.pointer (some ⟨p, 0, none⟩)] w fun e w' => ∃ v, e = .returned v ∧ RB w' w.heap.size v (dataR c xs).1 ∧ Rdr w' p d (dataR c xs).2.1 (dataR c xs).2.2 ∧ Kp p w w' := by
  obtain ⟨t, ht⟩ : ∃ t, dataR c xs = t := ⟨_, rfl⟩
  rw [ht]
  have N := num_calls r (by omega)
  have hx := rNum_bd (c := c) r.2.1
  have hln := rNum_len c xs
  unfold dataR at ht
  generalize rNum c xs = a at *
  obtain ⟨n, c1, x1⟩ := a
  simp only at N hx hln ht
  obtain ⟨n0, n1⟩ := hx
  have HT := Lib.hid ht
  have HN := Lib.hid N
  clear ht N r
  go_enter Try.func55, Try.ntmps55
  by_cases hn : n > 2048
  · go_wp2_with fail
    refine HN.out.mono ?_
    rintro e w1 ⟨rfl, D1, K1⟩
    have HD1 := Lib.hid D1
    have HK1 := Lib.hid K1
    clear D1 K1 HN
    go_wp2_with fail
    refine (fail_calls HD1.out 8).mono ?_
    rintro e w2 ⟨rfl, D2, K2⟩
    have HD2 := Lib.hid D2
    have HK2 := Lib.hid (HK1.out.trans K2)
    clear D2 K2 HD1 HK1
    go_wp2_with fail
    refine (bytes_calls HD2.out n n0 (by omega)).mono ?_
    rintro e w3 ⟨v, rfl, R3, D3, K3⟩
    have et := HT.out
    rw [if_pos hn] at et
    rw [et] at R3 D3
    have HR3 := Lib.hid (Kd.R_lower R3 HK2.out.size)
    have HD3 := Lib.hid D3
    have HK3 := Lib.hid (HK2.out.trans K3)
    clear R3 D3 K3 HK2 HD2 et
    go_wp2_with fail
    go_ret
    exact ⟨_, rfl, HR3.out, HD3.out, HK3.out⟩
  · go_wp2_with fail
    refine HN.out.mono ?_
    rintro e w1 ⟨rfl, D1, K1⟩
    have HD2 := Lib.hid D1
    have HK2 := Lib.hid K1
    clear D1 K1 HN
    go_wp2_with fail
    refine (bytes_calls HD2.out n n0 (by omega)).mono ?_
    rintro e w3 ⟨v, rfl, R3, D3, K3⟩
    have et := HT.out
    rw [if_neg (by omega)] at et
    rw [et] at R3 D3
    have HR3 := Lib.hid (Kd.R_lower R3 HK2.out.size)
    have HD3 := Lib.hid D3
    have HK3 := Lib.hid (HK2.out.trans K3)
    clear R3 D3 K3 HK2 HD2 et
    go_wp2_with fail
    go_ret
    exact ⟨_, rfl, HR3.out, HD3.out, HK3.out⟩

theorem cells8 {w : World} {b : Nat} {x : S58} {v6 v7 : Value} {T : TypeId} (h : w.heap[b]? = some (.cells (boxOf x v6 v7) T (0, 0))) :
    w.cell? ⟨b, 0, none⟩ = some (.int .u64 x.f0) ∧ w.cell? ⟨b, 1, none⟩ = some (.int .u64 x.f1) ∧ w.cell? ⟨b, 2, none⟩ = some (.int .u64 x.f2) ∧ w.cell? ⟨b, 3, none⟩ = some (.int .u64 x.f3) ∧ w.cell? ⟨b, 4, none⟩ = some (.int .u64 x.f4) ∧ w.cell? ⟨b, 5, none⟩ = some (.bool x.f5) ∧ w.cell? ⟨b, 6, none⟩ = some v6 ∧ w.cell? ⟨b, 7, none⟩ = some v7 :=
  ⟨blk_cell h 0, blk_cell h 1, blk_cell h 2, blk_cell h 3, blk_cell h 4, blk_cell h 5, blk_cell h 6, blk_cell h 7⟩

theorem ends {W : World} {tmps : Array Value} {hb : Nat} {f : Func} {c0 c1 c2 c3 c4 c5 c6 c7 : Value} (hr : f.results = #[.cell 2 58]) (h2 : tmps.getD 2 undef = .pointer (some ⟨hb, 0, none⟩))
    (hk : W.heap[hb]? = some (.cells #[c0, c1, c2, c3, c4, c5, c6, c7] 58 (0, 0))) : (results f tmps).run Try.prog W = .ok (.agg #[c0, c1, c2, c3, c4, c5, c6, c7]) W := by
  have k0 := blk_cell hk 0; have k1 := blk_cell hk 1; have k2 := blk_cell hk 2; have k3 := blk_cell hk 3
  have k4 := blk_cell hk 4; have k5 := blk_cell hk 5; have k6 := blk_cell hk 6; have k7 := blk_cell hk 7
  unfold results
  rw [hr]
  have hu := Try.underlying58
  rw [Array.getD_eq_getD_getElem?] at h2
  simp [go_sem, h2, k0, k1, k2, k3, k4, k5, k6, k7]

theorem info84 : (Try.prog.info? 84).map (fun i => (i.zero, i.size, i.bytes)) = some (some (.agg #[.int .u64 0, .int .u64 0]), 2, 16) := by kernel_rfl

/-- 'append(l, s)', spans: one, laid into a block of its own just ahead. -/
theorem app84 {ops : Array Oper} {rest : List Oper} {o : Oper} {a : Act} {Q : Exit → Act → World → Prop} {W w0 : World} (base : Nat) (hgd : o.guard = none) (s x : Operand) (ho : o.op = .call { callee := .builtin .append, args := #[s, x], argTypes := #[56, 56] })
    {v : Value} {xs : List S84} {q : S84} (HO : k84.R 84 W base (fun _ => True) v xs) (hs : a.eval s = v) (hx : a.eval x = .slice (some ⟨W.heap.size, 0, none⟩) 1 1) (hB : Below base w0 W) (hbase : base ≤ W.heap.size)
    (hl : xs.length + 1 ≤ 1000000)
    (h : ∀ v1 w1, k84.R 84 w1 base (fun _ => True) v1 (xs ++ [q]) → Below base w0 w1 → W.grownBy w1 v.ownBlock → (v1.ownBlock = v.ownBlock ∨ ∃ b, v1.ownBlock = some b ∧ W.heap.size ≤ b) → wpList Try.prog ops Q rest (a.put o.dst v1) w1) : wpList Try.prog ops Q (o :: rest) a (W.alloc (.cells #[.int .u64 q.f0, .int .u64 q.f1] 84)) :=
  Kd.R_append k84 (w0 := w0) base hgd s x 56 84 (.agg #[.int .u64 0, .int .u64 0]) 16 ho Try.underlying56 info84 rfl (by decide) (by decide) v xs q [.int .u64 q.f0, .int .u64 q.f1] (fun _ => True) (fun _ => False) hs hx (k84_mkM _ _ _ q) (fun _ hk => hk.elim) (fun _ _ => trivial) HO hB hbase (by omega) h

/-- The fault, where an ACK's loop comes to its end. -/
def acksQ (c : Int) (m : Nat) (lo hi : Int) (xs : List Int) (acc : List S84) : List S84 × Int × List Int := if c ≠ 0 then (acc, c, xs) else acksL m lo hi xs acc

theorem acksL_gt {m : Nat} {lo hi : Int} {xs : List Int} {acc : List S84} (h : lo > hi) : acksL m lo hi xs acc = (acc, 5, xs) := by
  cases m <;> (unfold acksL; rw [if_pos h])

theorem R_slice {α : Type} {dd : Kd α} {e base : Nat} {w : World} {ok : Nat → Prop} {v : Value} {l : List α} (h : dd.R e w base ok v l) : ∃ A n c, v = .slice A n c := by
  obtain ⟨A, c, rfl, -, -⟩ := Kd.R_reads h
  exact ⟨A, _, c, rfl⟩

theorem grow_blk {w0 w w1 : World} {p d fb : Nat} {c : Int} {xs : List Int} {x : S58} {v6 v7 : Value} (s : St w0 w p d fb c xs x v6 v7) (B : Below (fb + 1) w w1) : w1.heap[fb]? = some (.cells (boxOf x v6 v7) 58 (0, 0)) := (B.block fb (by omega)).trans s.blk

/-- The spans have grown, and are laid into their field. -/
theorem grow_put {w0 w w1 : World} {p d fb : Nat} {c : Int} {xs : List Int} {n : Int} {a l : List S84} {v7 u7 : Value} (s : St w0 w p d fb c xs (fr 0 0 0 n 0 false [] a) (.slice none 0 0) v7) (B : Below (fb + 1) w w1) (h7 : k84.R 84 w1 (fb + 1) (fun _ => True) u7 l) :
    St w0 (w1.setCell ⟨fb, 7, none⟩ u7) p d fb c xs (fr 0 0 0 n 0 false [] l) (.slice none 0 0) u7 := by
  have h1 := s.fb0; have h2 := s.p0; have h3 := s.d0
  have hb := blk_set (grow_blk s B) 7 u7
  have hkp : Kp fb w1 (w1.setCell ⟨fb, 7, none⟩ u7) := (Kp.refl fb w1).set 7 u7
  have hsz := B.size
  have hws := s.kp.size
  refine ⟨(s.rdr.stays B.size (B.block p (by omega)) (fun _ => B.block d (by omega))).keep hkp (by omega) (by omega), hb, Kd.R_nil _ _ _ _ _, hkp.R h7 (by omega), ⟨B.os.trans s.kp.os, B.tape.trans s.kp.tape, B.output.trans s.kp.output, Nat.le_trans s.kp.size (Nat.le_trans B.size hkp.size), fun k hk hp => ?_⟩, h1, h2, h3⟩
  rw [hkp.block k (by omega) (by omega), B.block k (by omega)]
  exact s.kp.block k hk hp

set_option maxHeartbeats 4000000 in
set_option maxRecDepth 100000 in
theorem acks_calls {w : World} {p d : Nat} {c : Int} {xs : List Int} (r : Rdr w p d c xs) (hl : xs.length ≤ 10000000) (hd : d < w.heap.size) :
    Calls Try.prog 54 #[.pointer (some ⟨p, 0, none⟩)] w fun e w' => ∃ v7, e = .returned (.agg (boxOf (fr 0 0 0 (acksR c xs).2.1 0 false [] (acksR c xs).1) (.slice none 0 0) v7)) ∧ k84.R 84 w' (w.heap.size + 1) (fun _ => True) v7 (acksR c xs).1 ∧ Rdr w' p d (acksR c xs).2.2.1 (acksR c xs).2.2.2 ∧ Kp p w w' := by
  have S0 := Lib.hid (St.new r (Kp.refl p w) r.1 hd)
  obtain ⟨t, ht⟩ : ∃ t, acksR c xs = t := ⟨_, rfl⟩
  rw [ht]
  have N1 := num_st S0.out (by omega)
  have hx := r.2.1
  obtain ⟨a1, hA1⟩ : ∃ a, rNum c xs = a := ⟨_, rfl⟩
  obtain ⟨a2, hA2⟩ : ∃ a, rNum a1.2.1 a1.2.2 = a := ⟨_, rfl⟩
  obtain ⟨a3, hA3⟩ : ∃ a, rNum a2.2.1 a2.2.2 = a := ⟨_, rfl⟩
  obtain ⟨a4, hA4⟩ : ∃ a, rNum a3.2.1 a3.2.2 = a := ⟨_, rfl⟩
  have b1 := rNum_bd (c := c) hx
  have y1 := rNum_rest_bd (c := c) hx
  have l1 := rNum_len c xs
  rw [hA1] at b1 y1 l1
  have b2 := rNum_bd (c := a1.2.1) y1
  have y2 := rNum_rest_bd (c := a1.2.1) y1
  have l2 := rNum_len a1.2.1 a1.2.2
  rw [hA2] at b2 y2 l2
  have b3 := rNum_bd (c := a2.2.1) y2
  have y3 := rNum_rest_bd (c := a2.2.1) y2
  have l3 := rNum_len a2.2.1 a2.2.2
  rw [hA3] at b3 y3 l3
  have b4 := rNum_bd (c := a3.2.1) y3
  have y4 := rNum_rest_bd (c := a3.2.1) y3
  have l4 := rNum_len a3.2.1 a3.2.2
  rw [hA4] at b4 y4 l4
  unfold acksR at ht
  simp only [hA1, hA2, hA3, hA4] at ht
  rw [hA1] at N1
  have HT := Lib.hid ht
  have HN1 := Lib.hid N1
  have HA2 := Lib.hid hA2
  have HA3 := Lib.hid hA3
  have HA4 := Lib.hid hA4
  have HR := Lib.hid r
  have HY4 := Lib.hid y4
  clear ht N1 r hx y1 y2 y3 y4 hA1 hA2 hA3 hA4
  obtain ⟨h1, c1, x1⟩ := a1
  obtain ⟨n2, c2, x2⟩ := a2
  obtain ⟨m3, c3, x3⟩ := a3
  obtain ⟨l4', c4, x4⟩ := a4
  simp only at *
  go_enter Try.func54, Try.ntmps54
  go_wp2_with fail
  refine HN1.out.mono ?_
  rintro e w1 ⟨rfl, S1⟩
  have HS1 := Lib.hid S1
  clear S1 HN1
  have N2 := num_st HS1.out (by omega)
  rw [HA2.out] at N2
  have HN2 := Lib.hid N2
  clear N2
  go_wp2_with fail
  refine HN2.out.mono ?_
  rintro e w2 ⟨rfl, S2⟩
  have hb2 : w.heap.size < w2.heap.size := blk_lt S2.blk
  have fz := blk_frozen S2.blk 3
  obtain ⟨k0, k1, k2, k3, k4, k5, k6, k7⟩ := cells8 S2.blk
  have S2b := S2.put 3 (u := .int .u64 n2) (y := fr 0 0 0 n2 0 false [] []) (u6 := .slice none 0 0) (u7 := .slice none 0 0) rfl S2.r6 S2.r7
  have HS2 := Lib.hid S2b
  have N3 := num_st HS2.out (by omega)
  rw [HA3.out] at N3
  have HN3 := Lib.hid N3
  clear S2 S2b N3 HS1 HN2
  go_wp2_with fail
  clear k0 k1 k2 k3 k4 k5 k6 k7 fz
  refine HN3.out.mono ?_
  rintro e w3 ⟨rfl, S3⟩
  have HS3 := Lib.hid S3
  have N4 := num_st HS3.out (by omega)
  rw [HA4.out] at N4
  have HN4 := Lib.hid N4
  clear S3 N4 HN3 HS2
  go_wp2_with fail
  refine HN4.out.mono ?_
  rintro e w4 ⟨rfl, S4⟩
  have HS4 := Lib.hid S4
  clear S4 HN4 HS3
  go_upto_if 18 with fail
  obtain ⟨c5, hc5⟩ : ∃ c5, (if m3 ≥ 32 then rFail 7 c4 else c4) = c5 := ⟨_, rfl⟩
  have ht := HT.out
  rw [hc5] at ht
  have HT2 := Lib.hid ht
  clear ht HT
  go_cut [3] from 8 (fun v3 wc => v3 = .int .u64 h1 ∧ Hid (St w wc p d w.heap.size c5 x4 (fr 0 0 0 n2 0 false [] []) (.slice none 0 0) (.slice none 0 0)) ∧ (c5 = 0 → m3 < 32))
  case first =>
    by_cases hm : m3 ≥ 32
    · rw [if_pos hm] at hc5
      have HC5 := Lib.hid hc5
      clear hc5
      go_wp2_with fail
      refine (fail_st HS4.out 7).mono ?_
      rintro e w5 ⟨rfl, S5⟩
      rw [HC5.out] at S5
      have HS5 := Lib.hid S5
      have hz : c5 = 0 → m3 < 32 := by
        intro h0
        have := HC5.out
        unfold rFail at this
        split at this <;> omega
      have HZ := Lib.hid hz
      clear S5 hz
      go_wp2_with fail
      go_meet
      case rel => exact ⟨rfl, HS5, HZ.out⟩
    · rw [if_neg hm] at hc5
      subst hc5
      go_wp2_with fail
      go_meet
      case rel => exact ⟨rfl, HS4, fun _ => by omega⟩
  case rest =>
    obtain ⟨rfl, HS5, hz⟩ := hcut
    have HZ := Lib.hid hz
    clear hz hc5 HS4
    go_wp2_with fail
    go_loopw [3, 4, 5] (fun hi many lo wr => ∃ (h m l c : Int) (xs : List Int) (acc : List S84) (v7 : Value), hi = .int .u64 h ∧ many = .int .u64 m ∧ lo = .int .u64 l ∧ 0 ≤ h ∧ h < 18446744073709551616 ∧ 0 ≤ m ∧ m < 4611686018427387904 ∧ 0 ≤ l ∧ l < 4611686018427387904 ∧ xs.length ≤ 10000000 ∧ Hid (St w wr p d w.heap.size c xs (fr 0 0 0 n2 0 false [] acc) (.slice none 0 0) v7) ∧ Hid (c = 0 → acc.length + m.toNat < 32) ∧ Hid (t = ((acksQ c m.toNat l h xs acc).1, n2, (acksQ c m.toNat l h xs acc).2))) (fun _ m _ _ => (intOf m).toNat)
    case atStart =>
      exact ⟨h1, m3, l4', c5, x4, [], .slice none 0 0, rfl, rfl, rfl, b1.1, by omega, b3.1, b3.2, b4.1, b4.2, by omega, HS5, Lib.hid (fun h0 => by have := HZ.out h0; simp only [List.length_nil]; omega), Lib.hid (by rw [← HT2.out]; unfold acksQ; by_cases h0 : c5 = 0 <;> simp [h0])⟩
    case round =>
      obtain ⟨h, m, l, c, xs, acc, v7, rfl, rfl, rfl, bh0, bh1, bm0, bm1, bl0, bl1, hxl, HS, HL, HTT⟩ := hrel
      clear HT2 HZ HS5 HY4
      by_cases hc : c = 0
      · subst hc
        have hac := HL.out rfl
        by_cases hlo : l > h
        · go_wp2_with fail
          refine (code_st HS.out).mono ?_
          rintro e w6 ⟨rfl, rfl⟩
          go_wp2_with fail
          refine (fail_st HS.out 5).mono ?_
          rintro e w7 ⟨rfl, S7⟩
          have HS7 := Lib.hid S7
          clear S7
          obtain ⟨A9, n9, c9, e9⟩ := R_slice HS7.out.r7
          subst e9
          obtain ⟨k0, k1, k2, k3, k4, k5, k6, k7⟩ := cells8 HS7.out.blk
          have z0 := blk_frozen HS7.out.blk 0; have z1 := blk_frozen HS7.out.blk 1; have z2 := blk_frozen HS7.out.blk 2; have z3 := blk_frozen HS7.out.blk 3
          have z4 := blk_frozen HS7.out.blk 4; have z5 := blk_frozen HS7.out.blk 5; have z6 := blk_frozen HS7.out.blk 6; have z7 := blk_frozen HS7.out.blk 7
          go_wp2_with fail
          clear k0 k1 k2 k3 k4 k5 k6 k7 z0 z1 z2 z3 z4 z5 z6 z7
          have hz := HS7.out.again
          have HZ9 := Lib.hid hz
          clear hz
          refine bodyPost_ret (ends (by kernel_rfl) rfl HZ9.out.blk) rfl ?_
          have et := HTT.out
          unfold acksQ at et
          rw [if_neg (by simp), acksL_gt hlo] at et
          subst et
          exact ⟨_, rfl, HZ9.out.r7, HZ9.out.rdr, HZ9.out.kp⟩
        · have hws : IntKind.u64.wrap (h - l) = h - l := by rw [IntKind.wrap_u64]; omega
          have hb0 : w.heap.size < wr.heap.size := blk_lt HS.out.blk
          go_upto_region 10 with fail
          refine (code_st HS.out).mono ?_
          rintro e w6 ⟨rfl, rfl⟩
          go_upto_region 10 with fail
          obtain ⟨k0, k1, k2, k3, k4, k5, k6, k7⟩ := cells8 HS.out.blk
          by_cases hm0 : m = 0
          · go_upto_region 18 with (first
              | ((with_reducible refine gate_builtin (b := .append) (xs := #[.tmp 32, .tmp 38]) rfl ?_); refine app84 (w0 := wr) (w.heap.size + 1) rfl (.tmp 32) (.tmp 38) rfl (xs := acc) (q := ⟨h - l, h⟩) HS.out.r7 rfl rfl (Below.refl _ _) hb0 (show acc.length + 1 ≤ 1000000 by omega) ?_; intro v8 w8 R8 B8 G8 N8; clear G8 N8; obtain ⟨A8, n8, c8, e8⟩ := R_slice R8; subst e8; clear k0 k1 k2 k3 k4 k5 k6 k7; obtain ⟨k0, k1, k2, k3, k4, k5, k6, k7⟩ := cells8 (grow_blk HS.out B8); have fz := blk_frozen (grow_blk HS.out B8) 7))
            have HS9 := Lib.hid (grow_put HS.out B8 R8)
            clear R8 B8 k0 k1 k2 k3 k4 k5 k6 k7 fz
            obtain ⟨k0, k1, k2, k3, k4, k5, k6, k7⟩ := cells8 HS9.out.blk
            have z0 := blk_frozen HS9.out.blk 0; have z1 := blk_frozen HS9.out.blk 1; have z2 := blk_frozen HS9.out.blk 2; have z3 := blk_frozen HS9.out.blk 3
            have z4 := blk_frozen HS9.out.blk 4; have z5 := blk_frozen HS9.out.blk 5; have z6 := blk_frozen HS9.out.blk 6; have z7 := blk_frozen HS9.out.blk 7
            go_wp2_with fail
            clear k0 k1 k2 k3 k4 k5 k6 k7 z0 z1 z2 z3 z4 z5 z6 z7
            have hz := HS9.out.again
            have HZ9 := Lib.hid hz
            clear hz
            refine bodyPost_ret (ends (by kernel_rfl) rfl HZ9.out.blk) rfl ?_
            have et := HTT.out
            unfold acksQ at et
            rw [if_neg (by simp), hm0, show (0 : Int).toNat = 0 from rfl] at et
            unfold acksL at et
            rw [if_neg (by omega)] at et
            subst et
            exact ⟨_, rfl, HZ9.out.r7, HZ9.out.rdr, HZ9.out.kp⟩
          · obtain ⟨m', hm'⟩ : ∃ m' : Nat, m = m' + 1 := ⟨(m - 1).toNat, by omega⟩
            obtain ⟨g, hg⟩ : ∃ g, rNum 0 xs = g := ⟨_, rfl⟩
            obtain ⟨g2, hg2⟩ : ∃ g2, rNum g.2.1 g.2.2 = g2 := ⟨_, rfl⟩
            have hx := HS.out.rdr.2.1
            have b5 := rNum_bd (c := 0) hx
            have y5 := rNum_rest_bd (c := 0) hx
            have l5 := rNum_len 0 xs
            rw [hg] at b5 y5 l5
            have b6 := rNum_bd (c := g.2.1) y5
            have l6 := rNum_len g.2.1 g.2.2
            rw [hg2] at b6 l6
            have htt := HTT.out
            unfold acksQ at htt
            rw [if_neg (by simp), show m.toNat = m' + 1 by omega] at htt
            unfold acksL at htt
            rw [if_neg (by omega), hg, hg2] at htt
            obtain ⟨gv, cg, xg⟩ := g
            obtain ⟨lv, c2, x2⟩ := g2
            simp only at b5 y5 l5 b6 l6 htt hg2
            have HTT2 := Lib.hid htt
            have HG := Lib.hid hg
            have HG2 := Lib.hid hg2
            obtain ⟨b50, b51⟩ := b5
            obtain ⟨b60, b61⟩ := b6
            clear htt hg hg2 hx y5 HTT
            go_wp2_with (first
              | ((with_reducible refine gate_builtin (b := .append) (xs := #[.tmp 32, .tmp 38]) rfl ?_); refine app84 (w0 := wr) (w.heap.size + 1) rfl (.tmp 32) (.tmp 38) rfl (xs := acc) (q := ⟨h - l, h⟩) HS.out.r7 rfl rfl (Below.refl _ _) hb0 (show acc.length + 1 ≤ 1000000 by omega) ?_; intro v8 w8 R8 B8 G8 N8; clear G8 N8; obtain ⟨A8, n8, c8, e8⟩ := R_slice R8; subst e8; clear k0 k1 k2 k3 k4 k5 k6 k7; obtain ⟨k0, k1, k2, k3, k4, k5, k6, k7⟩ := cells8 (grow_blk HS.out B8); have fz := blk_frozen (grow_blk HS.out B8) 7))
            have HS9 := Lib.hid (grow_put HS.out B8 R8)
            have NA := num_st HS9.out (by omega)
            rw [HG.out] at NA
            have HNA := Lib.hid NA
            clear NA R8 B8 k0 k1 k2 k3 k4 k5 k6 k7 fz
            refine HNA.out.mono ?_
            rintro e w10 ⟨rfl, S10⟩
            have HS10 := Lib.hid S10
            have NB := num_st HS10.out (show xg.length ≤ 140737488355328 by omega)
            rw [HG2.out] at NB
            have HNB := Lib.hid NB
            clear NB S10 HNA HS9
            go_wp2_with fail
            refine HNB.out.mono ?_
            rintro e w11 ⟨rfl, S11⟩
            have HS11 := Lib.hid S11
            clear S11 HNB HS10
            by_cases hc2 : c2 = 0
            · subst hc2
              by_cases hgap : gv + 2 > h - l
              · go_wp2_with fail
                refine (code_st HS11.out).mono ?_
                rintro e w12 ⟨rfl, rfl⟩
                go_wp2_with fail
                refine (fail_st HS11.out 5).mono ?_
                rintro e w13 ⟨rfl, S13⟩
                have HS13 := Lib.hid S13
                clear S13
                obtain ⟨k0, k1, k2, k3, k4, k5, k6, k7⟩ := cells8 HS13.out.blk
                have z0 := blk_frozen HS13.out.blk 0; have z1 := blk_frozen HS13.out.blk 1; have z2 := blk_frozen HS13.out.blk 2; have z3 := blk_frozen HS13.out.blk 3
                have z4 := blk_frozen HS13.out.blk 4; have z5 := blk_frozen HS13.out.blk 5; have z6 := blk_frozen HS13.out.blk 6; have z7 := blk_frozen HS13.out.blk 7
                go_wp2_with fail
                clear k0 k1 k2 k3 k4 k5 k6 k7 z0 z1 z2 z3 z4 z5 z6 z7
                have hz := HS13.out.again
                have HZ9 := Lib.hid hz
                clear hz
                refine bodyPost_ret (ends (by kernel_rfl) rfl HZ9.out.blk) rfl ?_
                have et := HTT2.out
                rw [if_neg (by simp), if_pos hgap] at et
                subst et
                exact ⟨_, rfl, HZ9.out.r7, HZ9.out.rdr, HZ9.out.kp⟩
              · have hw2 : IntKind.u64.wrap (h - l - gv) = h - l - gv := by rw [IntKind.wrap_u64]; omega
                have hw3 : IntKind.u64.wrap (h - l - gv - 2) = h - l - gv - 2 := by rw [IntKind.wrap_u64]; omega
                go_wp2_with fail
                refine (code_st HS11.out).mono ?_
                rintro e w12 ⟨rfl, rfl⟩
                go_wp2_with fail
                go_roundw
                case rel => exact ⟨h - l - gv - 2, (m' : Int), lv, 0, x2, acc ++ [⟨h - l, h⟩], _, rfl, rfl, rfl, by omega, by omega, by omega, by omega, b60, b61, by omega, HS11, Lib.hid (fun _ => by rw [List.length_append]; simp only [List.length_cons, List.length_nil]; omega), Lib.hid (by have et := HTT2.out; rw [if_neg (by simp), if_neg (by omega)] at et; unfold acksQ; rw [if_neg (by simp), show ((m' : Int)).toNat = m' by omega]; exact et)⟩
                case measure => simp [intOf]; omega
            · have t0 : (c2 == 0) = false := by simp [hc2]
              have HC2 := Lib.hid hc2
              clear hc2
              have hw2 : 0 ≤ IntKind.u64.wrap (h - l - gv) ∧ IntKind.u64.wrap (h - l - gv) < 18446744073709551616 := by rw [IntKind.wrap_u64]; omega
              go_wp2_with fail
              refine (code_st HS11.out).mono ?_
              rintro e w12 ⟨rfl, rfl⟩
              go_wp2_with fail
              go_roundw
              case rel => exact ⟨_, (m' : Int), lv, c2, x2, acc ++ [⟨h - l, h⟩], _, rfl, rfl, rfl, by first | omega | (rw [IntKind.wrap_u64]; omega), by first | omega | (rw [IntKind.wrap_u64]; omega), by omega, by omega, b60, b61, by omega, HS11, Lib.hid (fun h0 => absurd h0 HC2.out), Lib.hid (by have et := HTT2.out; rw [if_pos HC2.out] at et; unfold acksQ; rw [if_pos HC2.out]; exact et)⟩
              case measure => simp [intOf]; omega
      · have t0 : (c == 0) = false := by simp [hc]
        have HC := Lib.hid hc
        clear hc
        go_wp2_with fail
        refine (code_st HS.out).mono ?_
        rintro e w6 ⟨rfl, rfl⟩
        obtain ⟨A9, n9, c9, e9⟩ := R_slice HS.out.r7
        subst e9
        obtain ⟨k0, k1, k2, k3, k4, k5, k6, k7⟩ := cells8 HS.out.blk
        have z0 := blk_frozen HS.out.blk 0; have z1 := blk_frozen HS.out.blk 1; have z2 := blk_frozen HS.out.blk 2; have z3 := blk_frozen HS.out.blk 3
        have z4 := blk_frozen HS.out.blk 4; have z5 := blk_frozen HS.out.blk 5; have z6 := blk_frozen HS.out.blk 6; have z7 := blk_frozen HS.out.blk 7
        go_wp2_with fail
        clear k0 k1 k2 k3 k4 k5 k6 k7 z0 z1 z2 z3 z4 z5 z6 z7
        have hz := HS.out.again
        have HZ9 := Lib.hid hz
        clear hz
        refine bodyPost_ret (ends (by kernel_rfl) rfl HZ9.out.blk) rfl ?_
        have et := HTT.out
        unfold acksQ at et
        rw [if_pos HC.out] at et
        subst et
        exact ⟨_, rfl, HZ9.out.r7, HZ9.out.rdr, HZ9.out.kp⟩
end Go.Proofs.Ytmccghadgihbpaa.ParseW

namespace Go.Proofs.Ytmccghadgihbpaa.ParseOne
open Go Go.RowKit Go.Proofs.Ytmccghadgihbpaa.PFrameBack Go.Proofs.YtmccghadgihbpaaW.PrintWords Go.Proofs.YtmccghadgihbpaaW.PrintLast Go.Proofs.YtmccghadgihbpaaW.PrintMore Go.Proofs.Ytmccghadgihbpaa.Keep Go.Proofs.Ytmccghadgihbpaa.Mem Go.Proofs.Ytmccghadgihbpaa.Reader Go.Proofs.Ytmccghadgihbpaa.Take Go.Proofs.Ytmccghadgihbpaa.ParseS Go.Proofs.Ytmccghadgihbpaa.ParseW
set_option linter.unusedVariables false
set_option linter.unusedSimpArgs false

theorem dataR_len (c : Int) (xs : List Int) : (dataR c xs).1.length ≤ xs.length ∧ (dataR c xs).2.2.length ≤ xs.length := by
  have h1 := rNum_len c xs
  unfold dataR
  generalize (if (rNum c xs).1 > 2048 then rFail 8 (rNum c xs).2.1 else (rNum c xs).2.1) = cc
  have h2 := rBytes_len cc (rNum c xs).2.2 (rNum c xs).1
  have h3 : (rBytes cc (rNum c xs).2.2 (rNum c xs).1).1.length ≤ (rNum c xs).2.2.length := by
    unfold rBytes
    split
    · exact Nat.zero_le _
    · split
      · exact Nat.zero_le _
      · exact List.length_take_le' _ _
  omega

theorem acksL_len : ∀ (m : Nat) (lo hi : Int) (xs : List Int) (acc : List S84), (acksL m lo hi xs acc).2.2.length ≤ xs.length
  | 0, lo, hi, xs, acc => by unfold acksL; split <;> exact Nat.le_refl _
  | m + 1, lo, hi, xs, acc => by
    have h1 := rNum_len 0 xs
    have h2 := rNum_len (rNum 0 xs).2.1 (rNum 0 xs).2.2
    unfold acksL
    split
    · exact Nat.le_refl _
    · split
      · show (rNum (rNum 0 xs).2.1 (rNum 0 xs).2.2).2.2.length ≤ _; omega
      · split
        · show (rNum (rNum 0 xs).2.1 (rNum 0 xs).2.2).2.2.length ≤ _; omega
        · exact Nat.le_trans (acksL_len m _ _ _ _) (by omega)
theorem ifq {N : Nat} {cc n : Int} {x : List Int} {A : List S84 × Int × List Int} (h1 : x.length ≤ N) (h2 : A.2.2.length ≤ N) : (if cc ≠ 0 then (([] : List S84), n, cc, x) else (A.1, n, A.2)).2.2.2.length ≤ N := by
  split
  · exact h1
  · exact h2
theorem acksR_len (c : Int) (xs : List Int) : (acksR c xs).2.2.2.length ≤ xs.length := by
  have h1 := rNum_len c xs
  have h2 := rNum_len (rNum c xs).2.1 (rNum c xs).2.2
  have h3 := rNum_len (rNum (rNum c xs).2.1 (rNum c xs).2.2).2.1 (rNum (rNum c xs).2.1 (rNum c xs).2.2).2.2
  have h4 := rNum_len (rNum (rNum (rNum c xs).2.1 (rNum c xs).2.2).2.1 (rNum (rNum c xs).2.1 (rNum c xs).2.2).2.2).2.1 (rNum (rNum (rNum c xs).2.1 (rNum c xs).2.2).2.1 (rNum (rNum c xs).2.1 (rNum c xs).2.2).2.2).2.2
  unfold acksR
  exact ifq (by omega) (Nat.le_trans (acksL_len _ _ _ _ _) (by omega))

/-- The frame is handed out: its cells are laid into the result's. -/
theorem handed {w0 w1 w : World} {p d fb rb : Nat} {c : Int} {xs : List Int} {x : S58} {v6 v7 : Value} (s : St w1 w p d fb c xs x v6 v7) (k0 : Kp p w0 w1) (hrb : rb = w0.heap.size) (hb : w1.heap[rb]? = some (.cells #[.int .u64 0, .int .u64 0, .int .u64 0, .int .u64 0, .int .u64 0, .bool false, .slice none 0 0, .slice none 0 0] 58 (0, 0))) (hp : p < w0.heap.size) (hd : d < w0.heap.size) :
    ∃ W, W = ((((((((w.setCell ⟨rb, 0, none⟩ (.int .u64 x.f0)).setCell ⟨rb, 1, none⟩ (.int .u64 x.f1)).setCell ⟨rb, 2, none⟩ (.int .u64 x.f2)).setCell ⟨rb, 3, none⟩ (.int .u64 x.f3)).setCell ⟨rb, 4, none⟩ (.int .u64 x.f4)).setCell ⟨rb, 5, none⟩ (.bool x.f5)).setCell ⟨rb, 6, none⟩ v6).setCell ⟨rb, 7, none⟩ v7) ∧
      W.heap[rb]? = some (.cells (boxOf x v6 v7) 58 (0, 0)) ∧ RB W w0.heap.size v6 x.f6 ∧ k84.R 84 W w0.heap.size (fun _ => True) v7 x.f7 ∧ Rdr W p d c xs ∧ Kp p w0 W := by
  have hlt := blk_lt hb
  have hb1 := s.kp.blk hb (by omega)
  have h1 := s.fb0
  have b8 := blk_set (blk_set (blk_set (blk_set (blk_set (blk_set (blk_set (blk_set hb1 0 (.int .u64 x.f0)) 1 (.int .u64 x.f1)) 2 (.int .u64 x.f2)) 3 (.int .u64 x.f3)) 4 (.int .u64 x.f4)) 5 (.bool x.f5)) 6 v6) 7 v7
  have g := (((((((((Kp.refl rb w).set 0 (.int .u64 x.f0)).set 1 (.int .u64 x.f1)).set 2 (.int .u64 x.f2)).set 3 (.int .u64 x.f3)).set 4 (.int .u64 x.f4)).set 5 (.bool x.f5)).set 6 v6).set 7 v7)
  obtain ⟨W, hW⟩ : ∃ W, W = ((((((((w.setCell ⟨rb, 0, none⟩ (.int .u64 x.f0)).setCell ⟨rb, 1, none⟩ (.int .u64 x.f1)).setCell ⟨rb, 2, none⟩ (.int .u64 x.f2)).setCell ⟨rb, 3, none⟩ (.int .u64 x.f3)).setCell ⟨rb, 4, none⟩ (.int .u64 x.f4)).setCell ⟨rb, 5, none⟩ (.bool x.f5)).setCell ⟨rb, 6, none⟩ v6).setCell ⟨rb, 7, none⟩ v7) := ⟨_, rfl⟩
  rw [← hW] at b8 g
  refine ⟨W, hW, ?_, Kd.R_lower (g.R s.r6 (by omega)) (by omega), Kd.R_lower (g.R s.r7 (by omega)) (by omega), s.rdr.keep g (by omega) (by omega), ⟨(g.os.trans (s.kp.os.trans k0.os)), (g.tape.trans (s.kp.tape.trans k0.tape)), (g.output.trans (s.kp.output.trans k0.output)), ?_, ?_⟩⟩
  · rw [b8]
    simp [boxOf]
  · exact Nat.le_trans k0.size (Nat.le_trans s.kp.size g.size)
  · intro i hi hip
    rw [g.block i (by have := k0.size; have := s.kp.size; omega) (by omega), s.kp.block i (by have := k0.size; omega) hip]
    exact k0.block i hi hip

/-- An ACK's frame is laid onto the empty one. -/
theorem over84 {w0 w : World} {p d fb : Nat} {c n : Int} {xs : List Int} {l : List S84} {u7 : Value} (s : St w0 w p d fb c xs z58 (.slice none 0 0) (.slice none 0 0)) (h7 : k84.R 84 w (fb + 1) (fun _ => True) u7 l) :
    St w0 ((((((((w.setCell ⟨fb, 0, none⟩ (.int .u64 0)).setCell ⟨fb, 1, none⟩ (.int .u64 0)).setCell ⟨fb, 2, none⟩ (.int .u64 0)).setCell ⟨fb, 3, none⟩ (.int .u64 n)).setCell ⟨fb, 4, none⟩ (.int .u64 0)).setCell ⟨fb, 5, none⟩ (.bool false)).setCell ⟨fb, 6, none⟩ (.slice none 0 0)).setCell ⟨fb, 7, none⟩ u7) p d fb c xs (fr 0 0 0 n 0 false [] l) (.slice none 0 0) u7 := by
  have hR : ∀ {w : World} (i : Nat) (u : Value), k84.R 84 w (fb + 1) (fun _ => True) u7 l → k84.R 84 (w.setCell ⟨fb, i, none⟩ u) (fb + 1) (fun _ => True) u7 l := fun i u h => ((Kp.refl fb _).set i u).R h (by omega)
  have s0 := s.put 0 (u := .int .u64 0) (y := z58) rfl s.r6 s.r7
  have s1 := s0.put 1 (u := .int .u64 0) (y := z58) rfl s0.r6 s0.r7
  have s2 := s1.put 2 (u := .int .u64 0) (y := z58) rfl s1.r6 s1.r7
  have s3 := s2.put 3 (u := .int .u64 n) (y := fr 0 0 0 n 0 false [] []) rfl s2.r6 s2.r7
  have s4 := s3.put 4 (u := .int .u64 0) (y := fr 0 0 0 n 0 false [] []) rfl s3.r6 s3.r7
  have s5 := s4.put 5 (u := .bool false) (y := fr 0 0 0 n 0 false [] []) rfl s4.r6 s4.r7
  have s6 := s5.put 6 (u := .slice none 0 0) (y := fr 0 0 0 n 0 false [] []) rfl s5.r6 s5.r7
  exact s6.put 7 (u := u7) (y := fr 0 0 0 n 0 false [] l) (u7 := u7) rfl s6.r6 (hR 6 _ (hR 5 _ (hR 4 _ (hR 3 _ (hR 2 _ (hR 1 _ (hR 0 _ h7)))))))

set_option maxHeartbeats 8000000 in
set_option maxRecDepth 100000 in
theorem one_calls {w : World} {p d : Nat} {c : Int} {xs : List Int} (r : Rdr w p d c xs) (hl : xs.length ≤ 10000000) (hd : d < w.heap.size) :
    Calls Try.prog 52 #[.pointer (some ⟨p, 0, none⟩)] w fun e w' => ∃ v6 v7, e = .returned (.agg (boxOf (oneR c xs).1 v6 v7)) ∧ RB w' w.heap.size v6 (oneR c xs).1.f6 ∧ k84.R 84 w' w.heap.size (fun _ => True) v7 (oneR c xs).1.f7 ∧ Rdr w' p d (oneR c xs).2.1 (oneR c xs).2.2 ∧ Kp p w w' := by
  have hp := r.1
  have B1 := (Below.refl w.heap.size w).alloc (Nat.le_refl _) (.cells #[.int .u64 0, .int .u64 0, .int .u64 0, .int .u64 0, .int .u64 0, .bool false, .slice none 0 0, .slice none 0 0] 58)
  have hk1 := heap_alloc_new w (.cells #[.int .u64 0, .int .u64 0, .int .u64 0, .int .u64 0, .int .u64 0, .bool false, .slice none 0 0, .slice none 0 0] 58)
  have hz1 : w.heap.size < (w.alloc (.cells #[.int .u64 0, .int .u64 0, .int .u64 0, .int .u64 0, .int .u64 0, .bool false, .slice none 0 0, .slice none 0 0] 58)).heap.size := by simp
  have r1 := r.below B1
  obtain ⟨w1, hw1⟩ : ∃ w1 : World, w1 = w.alloc (.cells #[.int .u64 0, .int .u64 0, .int .u64 0, .int .u64 0, .int .u64 0, .bool false, .slice none 0 0, .slice none 0 0] 58) := ⟨_, rfl⟩
  rw [← hw1] at B1 hk1 r1 hz1
  have HW1 := Lib.hid hw1
  have hx := r.2.1
  obtain ⟨t, ht⟩ : ∃ t, oneR c xs = t := ⟨_, rfl⟩
  rw [ht]
  have N := num_calls r1 (by omega)
  have bk := rNum_bd (c := c) hx
  have lk := rNum_len c xs
  unfold oneR at ht
  obtain ⟨a, hA⟩ : ∃ a, rNum c xs = a := ⟨_, rfl⟩
  rw [hA] at N bk lk ht
  obtain ⟨k, c1, x1⟩ := a
  simp only at N bk lk ht
  obtain ⟨bk0, bk1⟩ := bk
  have HT := Lib.hid ht
  have HN := Lib.hid N
  have HK1 := Lib.hid hk1
  have HB1 := Lib.hid B1
  clear ht N hA r r1 hx hw1 hk1 B1
  go_enter Try.func52, Try.ntmps52
  go_upto_region 1 with fail
  rw [← HW1.out]
  go_wp2_with fail
  refine HN.out.mono ?_
  rintro e w2 ⟨rfl, D2, K2⟩
  have S1 := St.new D2 K2 (by omega) (by omega)
  have hfb := K2.size
  go_upto_block 0 with fail
  obtain ⟨fb, hfbe⟩ : ∃ fb, fb = w2.heap.size := ⟨_, rfl⟩
  rw [← hfbe] at S1 hfb ⊢
  generalize (w2.alloc (.cells #[.int .u64 0, .int .u64 0, .int .u64 0, .int .u64 0, .int .u64 0, .bool false, .slice none 0 0, .slice none 0 0] 58)) = w3 at *
  have HS1 := Lib.hid S1
  clear D2 K2 HN S1 hfbe
  go_cut [3] from 5 (fun v3 wc => ∃ (kf : Int) (x : S58) (c' : Int) (xs' : List Int) (v6 v7 : Value), v3 = .int .u64 kf ∧ Hid (St w1 wc p d fb c' xs' x v6 v7) ∧ Hid (bodyR k c1 x1 = (⟨kf, x.f1, x.f2, x.f3, x.f4, x.f5, x.f6, x.f7⟩, c', xs')) ∧ (0 ≤ x.f2 ∧ x.f2 < 4611686018427387904) ∧ xs'.length ≤ 10000000 ∧ x.f6.length ≤ 10000000)
  case first =>
    by_cases h0 : k = 0
    · subst h0
      go_wp2_with fail
      go_meet
      case rel => exact ⟨0, (fr 0 0 0 0 0 false [] []), c1, x1, (.slice none 0 0), (.slice none 0 0), rfl, HS1, Lib.hid (by show bodyR 0 c1 x1 = _; unfold bodyR; simp [fr]; done), ⟨by simp [fr], by simp [fr]⟩, by omega, by simp only [fr, List.length_nil]; omega⟩
    by_cases h1 : k = 1
    · subst h1
      go_wp2_with fail
      go_meet
      case rel => exact ⟨1, (fr 0 0 0 0 0 false [] []), c1, x1, (.slice none 0 0), (.slice none 0 0), rfl, HS1, Lib.hid (by show bodyR 1 c1 x1 = _; unfold bodyR; simp [fr]; done), ⟨by simp [fr], by simp [fr]⟩, by omega, by simp only [fr, List.length_nil]; omega⟩
    by_cases h30 : k = 30
    · subst h30
      go_wp2_with fail
      go_meet
      case rel => exact ⟨30, (fr 0 0 0 0 0 false [] []), c1, x1, (.slice none 0 0), (.slice none 0 0), rfl, HS1, Lib.hid (by show bodyR 30 c1 x1 = _; unfold bodyR; simp [fr]; done), ⟨by simp [fr], by simp [fr]⟩, by omega, by simp only [fr, List.length_nil]; omega⟩
    by_cases h4 : k = 4
    · subst h4
      obtain ⟨a, hA⟩ : ∃ a, rNum c1 x1 = a := ⟨_, rfl⟩
      obtain ⟨n2, c2, x2⟩ := a
      have b2 := rNum_bd (c := c1) HS1.out.rdr.2.1
      have l2 := rNum_len c1 x1
      rw [hA] at b2 l2
      simp only at b2 l2
      obtain ⟨b2l, b2h⟩ := b2
      have N := num_st HS1.out (by omega)
      rw [hA] at N
      have HA2 := Lib.hid hA
      have HN := Lib.hid N
      clear N hA
      go_wp2_with fail
      refine HN.out.mono ?_
      rintro e w4 ⟨rfl, S⟩
      obtain ⟨k0, k1, k2, k3, k4, k5, k6, k7⟩ := cells8 S.blk
      have fz := blk_frozen S.blk 1
      have SB := S.put 1 (u := .int .u64 n2) (y := (fr 0 n2 0 0 0 false [] [])) (u6 := (.slice none 0 0)) (u7 := (.slice none 0 0)) rfl S.r6 S.r7
      have HS2 := Lib.hid SB
      clear S SB HN
      obtain ⟨a, hA⟩ : ∃ a, rNum c2 x2 = a := ⟨_, rfl⟩
      obtain ⟨n3, c3, x3⟩ := a
      have b3 := rNum_bd (c := c2) HS2.out.rdr.2.1
      have l3 := rNum_len c2 x2
      rw [hA] at b3 l3
      simp only at b3 l3
      obtain ⟨b3l, b3h⟩ := b3
      have N := num_st HS2.out (by omega)
      rw [hA] at N
      have HA3 := Lib.hid hA
      have HN := Lib.hid N
      clear N hA
      go_wp2_with fail
      clear k0 k1 k2 k3 k4 k5 k6 k7 fz
      refine HN.out.mono ?_
      rintro e w5 ⟨rfl, S⟩
      obtain ⟨k0, k1, k2, k3, k4, k5, k6, k7⟩ := cells8 S.blk
      have fz := blk_frozen S.blk 4
      have SB := S.put 4 (u := .int .u64 n3) (y := (fr 0 n2 0 0 n3 false [] [])) (u6 := (.slice none 0 0)) (u7 := (.slice none 0 0)) rfl S.r6 S.r7
      have HS3 := Lib.hid SB
      clear S SB HN
      obtain ⟨a, hA⟩ : ∃ a, rNum c3 x3 = a := ⟨_, rfl⟩
      obtain ⟨n4, c4, x4⟩ := a
      have b4 := rNum_bd (c := c3) HS3.out.rdr.2.1
      have l4 := rNum_len c3 x3
      rw [hA] at b4 l4
      simp only at b4 l4
      obtain ⟨b4l, b4h⟩ := b4
      have N := num_st HS3.out (by omega)
      rw [hA] at N
      have HA4 := Lib.hid hA
      have HN := Lib.hid N
      clear N hA
      go_wp2_with fail
      clear k0 k1 k2 k3 k4 k5 k6 k7 fz
      refine HN.out.mono ?_
      rintro e w6 ⟨rfl, S⟩
      obtain ⟨k0, k1, k2, k3, k4, k5, k6, k7⟩ := cells8 S.blk
      have fz := blk_frozen S.blk 3
      have SB := S.put 3 (u := .int .u64 n4) (y := (fr 0 n2 0 n4 n3 false [] [])) (u6 := (.slice none 0 0)) (u7 := (.slice none 0 0)) rfl S.r6 S.r7
      have HS4 := Lib.hid SB
      clear S SB HN
      go_wp2_with fail
      clear k0 k1 k2 k3 k4 k5 k6 k7 fz
      go_meet
      case rel => exact ⟨4, (fr 0 n2 0 n4 n3 false [] []), c4, x4, (.slice none 0 0), (.slice none 0 0), rfl, HS4, Lib.hid (by show bodyR 4 c1 x1 = _; unfold bodyR; simp [HA2.out, HA3.out, HA4.out, fr]; done), ⟨by simp [fr], by simp [fr]⟩, by omega, by simp only [fr, List.length_nil]; omega⟩
    by_cases h5 : k = 5
    · subst h5
      obtain ⟨a, hA⟩ : ∃ a, rNum c1 x1 = a := ⟨_, rfl⟩
      obtain ⟨n2, c2, x2⟩ := a
      have b2 := rNum_bd (c := c1) HS1.out.rdr.2.1
      have l2 := rNum_len c1 x1
      rw [hA] at b2 l2
      simp only at b2 l2
      obtain ⟨b2l, b2h⟩ := b2
      have N := num_st HS1.out (by omega)
      rw [hA] at N
      have HA2 := Lib.hid hA
      have HN := Lib.hid N
      clear N hA
      go_wp2_with fail
      refine HN.out.mono ?_
      rintro e w4 ⟨rfl, S⟩
      obtain ⟨k0, k1, k2, k3, k4, k5, k6, k7⟩ := cells8 S.blk
      have fz := blk_frozen S.blk 1
      have SB := S.put 1 (u := .int .u64 n2) (y := (fr 0 n2 0 0 0 false [] [])) (u6 := (.slice none 0 0)) (u7 := (.slice none 0 0)) rfl S.r6 S.r7
      have HS2 := Lib.hid SB
      clear S SB HN
      obtain ⟨a, hA⟩ : ∃ a, rNum c2 x2 = a := ⟨_, rfl⟩
      obtain ⟨n3, c3, x3⟩ := a
      have b3 := rNum_bd (c := c2) HS2.out.rdr.2.1
      have l3 := rNum_len c2 x2
      rw [hA] at b3 l3
      simp only at b3 l3
      obtain ⟨b3l, b3h⟩ := b3
      have N := num_st HS2.out (by omega)
      rw [hA] at N
      have HA3 := Lib.hid hA
      have HN := Lib.hid N
      clear N hA
      go_wp2_with fail
      clear k0 k1 k2 k3 k4 k5 k6 k7 fz
      refine HN.out.mono ?_
      rintro e w5 ⟨rfl, S⟩
      obtain ⟨k0, k1, k2, k3, k4, k5, k6, k7⟩ := cells8 S.blk
      have fz := blk_frozen S.blk 4
      have SB := S.put 4 (u := .int .u64 n3) (y := (fr 0 n2 0 0 n3 false [] [])) (u6 := (.slice none 0 0)) (u7 := (.slice none 0 0)) rfl S.r6 S.r7
      have HS3 := Lib.hid SB
      clear S SB HN
      go_wp2_with fail
      clear k0 k1 k2 k3 k4 k5 k6 k7 fz
      go_meet
      case rel => exact ⟨5, (fr 0 n2 0 0 n3 false [] []), c3, x3, (.slice none 0 0), (.slice none 0 0), rfl, HS3, Lib.hid (by show bodyR 5 c1 x1 = _; unfold bodyR; simp [HA2.out, HA3.out, fr]; done), ⟨by simp [fr], by simp [fr]⟩, by omega, by simp only [fr, List.length_nil]; omega⟩
    by_cases h16 : k = 16
    · subst h16
      obtain ⟨a, hA⟩ : ∃ a, rNum c1 x1 = a := ⟨_, rfl⟩
      obtain ⟨n2, c2, x2⟩ := a
      have b2 := rNum_bd (c := c1) HS1.out.rdr.2.1
      have l2 := rNum_len c1 x1
      rw [hA] at b2 l2
      simp only at b2 l2
      obtain ⟨b2l, b2h⟩ := b2
      have N := num_st HS1.out (by omega)
      rw [hA] at N
      have HA2 := Lib.hid hA
      have HN := Lib.hid N
      clear N hA
      go_wp2_with fail
      refine HN.out.mono ?_
      rintro e w4 ⟨rfl, S⟩
      obtain ⟨k0, k1, k2, k3, k4, k5, k6, k7⟩ := cells8 S.blk
      have fz := blk_frozen S.blk 3
      have SB := S.put 3 (u := .int .u64 n2) (y := (fr 0 0 0 n2 0 false [] [])) (u6 := (.slice none 0 0)) (u7 := (.slice none 0 0)) rfl S.r6 S.r7
      have HS2 := Lib.hid SB
      clear S SB HN
      go_wp2_with fail
      clear k0 k1 k2 k3 k4 k5 k6 k7 fz
      go_meet
      case rel => exact ⟨16, (fr 0 0 0 n2 0 false [] []), c2, x2, (.slice none 0 0), (.slice none 0 0), rfl, HS2, Lib.hid (by show bodyR 16 c1 x1 = _; unfold bodyR; simp [HA2.out, fr]; done), ⟨by simp [fr], by simp [fr]⟩, by omega, by simp only [fr, List.length_nil]; omega⟩
    by_cases h18 : k = 18
    · subst h18
      obtain ⟨a, hA⟩ : ∃ a, rNum c1 x1 = a := ⟨_, rfl⟩
      obtain ⟨n2, c2, x2⟩ := a
      have b2 := rNum_bd (c := c1) HS1.out.rdr.2.1
      have l2 := rNum_len c1 x1
      rw [hA] at b2 l2
      simp only at b2 l2
      obtain ⟨b2l, b2h⟩ := b2
      have N := num_st HS1.out (by omega)
      rw [hA] at N
      have HA2 := Lib.hid hA
      have HN := Lib.hid N
      clear N hA
      go_wp2_with fail
      refine HN.out.mono ?_
      rintro e w4 ⟨rfl, S⟩
      obtain ⟨k0, k1, k2, k3, k4, k5, k6, k7⟩ := cells8 S.blk
      have fz := blk_frozen S.blk 3
      have SB := S.put 3 (u := .int .u64 n2) (y := (fr 0 0 0 n2 0 false [] [])) (u6 := (.slice none 0 0)) (u7 := (.slice none 0 0)) rfl S.r6 S.r7
      have HS2 := Lib.hid SB
      clear S SB HN
      go_wp2_with fail
      clear k0 k1 k2 k3 k4 k5 k6 k7 fz
      go_meet
      case rel => exact ⟨18, (fr 0 0 0 n2 0 false [] []), c2, x2, (.slice none 0 0), (.slice none 0 0), rfl, HS2, Lib.hid (by show bodyR 18 c1 x1 = _; unfold bodyR; simp [HA2.out, fr]; done), ⟨by simp [fr], by simp [fr]⟩, by omega, by simp only [fr, List.length_nil]; omega⟩
    by_cases h17 : k = 17
    · subst h17
      obtain ⟨a, hA⟩ : ∃ a, rNum c1 x1 = a := ⟨_, rfl⟩
      obtain ⟨n2, c2, x2⟩ := a
      have b2 := rNum_bd (c := c1) HS1.out.rdr.2.1
      have l2 := rNum_len c1 x1
      rw [hA] at b2 l2
      simp only at b2 l2
      obtain ⟨b2l, b2h⟩ := b2
      have N := num_st HS1.out (by omega)
      rw [hA] at N
      have HA2 := Lib.hid hA
      have HN := Lib.hid N
      clear N hA
      go_wp2_with fail
      refine HN.out.mono ?_
      rintro e w4 ⟨rfl, S⟩
      obtain ⟨k0, k1, k2, k3, k4, k5, k6, k7⟩ := cells8 S.blk
      have fz := blk_frozen S.blk 1
      have SB := S.put 1 (u := .int .u64 n2) (y := (fr 0 n2 0 0 0 false [] [])) (u6 := (.slice none 0 0)) (u7 := (.slice none 0 0)) rfl S.r6 S.r7
      have HS2 := Lib.hid SB
      clear S SB HN
      obtain ⟨a, hA⟩ : ∃ a, rNum c2 x2 = a := ⟨_, rfl⟩
      obtain ⟨n3, c3, x3⟩ := a
      have b3 := rNum_bd (c := c2) HS2.out.rdr.2.1
      have l3 := rNum_len c2 x2
      rw [hA] at b3 l3
      simp only at b3 l3
      obtain ⟨b3l, b3h⟩ := b3
      have N := num_st HS2.out (by omega)
      rw [hA] at N
      have HA3 := Lib.hid hA
      have HN := Lib.hid N
      clear N hA
      go_wp2_with fail
      clear k0 k1 k2 k3 k4 k5 k6 k7 fz
      refine HN.out.mono ?_
      rintro e w5 ⟨rfl, S⟩
      obtain ⟨k0, k1, k2, k3, k4, k5, k6, k7⟩ := cells8 S.blk
      have fz := blk_frozen S.blk 3
      have SB := S.put 3 (u := .int .u64 n3) (y := (fr 0 n2 0 n3 0 false [] [])) (u6 := (.slice none 0 0)) (u7 := (.slice none 0 0)) rfl S.r6 S.r7
      have HS3 := Lib.hid SB
      clear S SB HN
      go_wp2_with fail
      clear k0 k1 k2 k3 k4 k5 k6 k7 fz
      go_meet
      case rel => exact ⟨17, (fr 0 n2 0 n3 0 false [] []), c3, x3, (.slice none 0 0), (.slice none 0 0), rfl, HS3, Lib.hid (by show bodyR 17 c1 x1 = _; unfold bodyR; simp [HA2.out, HA3.out, fr]; done), ⟨by simp [fr], by simp [fr]⟩, by omega, by simp only [fr, List.length_nil]; omega⟩
    by_cases h6 : k = 6
    · subst h6
      obtain ⟨a, hA⟩ : ∃ a, rNum c1 x1 = a := ⟨_, rfl⟩
      obtain ⟨n2, c2, x2⟩ := a
      have b2 := rNum_bd (c := c1) HS1.out.rdr.2.1
      have l2 := rNum_len c1 x1
      rw [hA] at b2 l2
      simp only at b2 l2
      obtain ⟨b2l, b2h⟩ := b2
      have N := num_st HS1.out (by omega)
      rw [hA] at N
      have HA2 := Lib.hid hA
      have HN := Lib.hid N
      clear N hA
      go_wp2_with fail
      refine HN.out.mono ?_
      rintro e w4 ⟨rfl, S⟩
      obtain ⟨k0, k1, k2, k3, k4, k5, k6, k7⟩ := cells8 S.blk
      have fz := blk_frozen S.blk 2
      have SB := S.put 2 (u := .int .u64 n2) (y := (fr 0 0 n2 0 0 false [] [])) (u6 := (.slice none 0 0)) (u7 := (.slice none 0 0)) rfl S.r6 S.r7
      have HS2 := Lib.hid SB
      clear S SB HN
      obtain ⟨a, hA⟩ : ∃ a, dataR c2 x2 = a := ⟨_, rfl⟩
      obtain ⟨d3, c3, x3⟩ := a
      have l3 := dataR_len c2 x2
      rw [hA] at l3
      simp only at l3
      obtain ⟨l3a, l3b⟩ := l3
      have N := data_calls HS2.out.rdr (by omega)
      rw [hA] at N
      have HA3 := Lib.hid hA
      have HN := Lib.hid N
      clear N hA
      go_wp2_with fail
      clear k0 k1 k2 k3 k4 k5 k6 k7 fz
      have hfb := blk_lt HS2.out.blk
      refine HN.out.mono ?_
      rintro e w5 ⟨v6, rfl, R, D, K⟩
      obtain ⟨A6, n6, q6, e6⟩ := R_slice R
      subst e6
      have S := HS2.out.keep K D
      obtain ⟨k0, k1, k2, k3, k4, k5, k6, k7⟩ := cells8 S.blk
      have fz := blk_frozen S.blk 6
      have SB := S.put 6 (u := .slice A6 n6 q6) (y := (fr 0 0 n2 0 0 false d3 [])) (u6 := .slice A6 n6 q6) (u7 := (.slice none 0 0)) rfl (Kd.R_lower R hfb) S.r7
      have HS3 := Lib.hid SB
      clear S SB HN R D K hfb
      go_wp2_with fail
      clear k0 k1 k2 k3 k4 k5 k6 k7 fz
      go_meet
      case rel => exact ⟨6, (fr 0 0 n2 0 0 false d3 []), c3, x3, (.slice A6 n6 q6), (.slice none 0 0), rfl, HS3, Lib.hid (by show bodyR 6 c1 x1 = _; unfold bodyR; simp [HA2.out, HA3.out, fr]; done), ⟨b2l, b2h⟩, by omega, by simp only [fr, List.length_nil]; omega⟩
    by_cases h28 : k = 28
    · subst h28
      obtain ⟨a, hA⟩ : ∃ a, rNum c1 x1 = a := ⟨_, rfl⟩
      obtain ⟨n2, c2, x2⟩ := a
      have b2 := rNum_bd (c := c1) HS1.out.rdr.2.1
      have l2 := rNum_len c1 x1
      rw [hA] at b2 l2
      simp only at b2 l2
      obtain ⟨b2l, b2h⟩ := b2
      have N := num_st HS1.out (by omega)
      rw [hA] at N
      have HA2 := Lib.hid hA
      have HN := Lib.hid N
      clear N hA
      go_wp2_with fail
      refine HN.out.mono ?_
      rintro e w4 ⟨rfl, S⟩
      obtain ⟨k0, k1, k2, k3, k4, k5, k6, k7⟩ := cells8 S.blk
      have fz := blk_frozen S.blk 4
      have SB := S.put 4 (u := .int .u64 n2) (y := (fr 0 0 0 0 n2 false [] [])) (u6 := (.slice none 0 0)) (u7 := (.slice none 0 0)) rfl S.r6 S.r7
      have HS2 := Lib.hid SB
      clear S SB HN
      obtain ⟨a, hA⟩ : ∃ a, dataR c2 x2 = a := ⟨_, rfl⟩
      obtain ⟨d3, c3, x3⟩ := a
      have l3 := dataR_len c2 x2
      rw [hA] at l3
      simp only at l3
      obtain ⟨l3a, l3b⟩ := l3
      have N := data_calls HS2.out.rdr (by omega)
      rw [hA] at N
      have HA3 := Lib.hid hA
      have HN := Lib.hid N
      clear N hA
      go_wp2_with fail
      clear k0 k1 k2 k3 k4 k5 k6 k7 fz
      have hfb := blk_lt HS2.out.blk
      refine HN.out.mono ?_
      rintro e w5 ⟨v6, rfl, R, D, K⟩
      obtain ⟨A6, n6, q6, e6⟩ := R_slice R
      subst e6
      have S := HS2.out.keep K D
      obtain ⟨k0, k1, k2, k3, k4, k5, k6, k7⟩ := cells8 S.blk
      have fz := blk_frozen S.blk 6
      have SB := S.put 6 (u := .slice A6 n6 q6) (y := (fr 0 0 0 0 n2 false d3 [])) (u6 := .slice A6 n6 q6) (u7 := (.slice none 0 0)) rfl (Kd.R_lower R hfb) S.r7
      have HS3 := Lib.hid SB
      clear S SB HN R D K hfb
      go_wp2_with fail
      clear k0 k1 k2 k3 k4 k5 k6 k7 fz
      go_meet
      case rel => exact ⟨28, (fr 0 0 0 0 n2 false d3 []), c3, x3, (.slice A6 n6 q6), (.slice none 0 0), rfl, HS3, Lib.hid (by show bodyR 28 c1 x1 = _; unfold bodyR; simp [HA2.out, HA3.out, fr]; done), ⟨by simp [fr], by simp [fr]⟩, by omega, by simp only [fr, List.length_nil]; omega⟩
    by_cases h10 : k = 10
    · subst h10
      obtain ⟨a, hA⟩ : ∃ a, rNum c1 x1 = a := ⟨_, rfl⟩
      obtain ⟨n2, c2, x2⟩ := a
      have b2 := rNum_bd (c := c1) HS1.out.rdr.2.1
      have l2 := rNum_len c1 x1
      rw [hA] at b2 l2
      simp only at b2 l2
      obtain ⟨b2l, b2h⟩ := b2
      have N := num_st HS1.out (by omega)
      rw [hA] at N
      have HA2 := Lib.hid hA
      have HN := Lib.hid N
      clear N hA
      go_wp2_with fail
      refine HN.out.mono ?_
      rintro e w4 ⟨rfl, S⟩
      obtain ⟨k0, k1, k2, k3, k4, k5, k6, k7⟩ := cells8 S.blk
      have fz := blk_frozen S.blk 1
      have SB := S.put 1 (u := .int .u64 n2) (y := (fr 0 n2 0 0 0 false [] [])) (u6 := (.slice none 0 0)) (u7 := (.slice none 0 0)) rfl S.r6 S.r7
      have HS2 := Lib.hid SB
      clear S SB HN
      go_upto_region 29 with fail
      clear k0 k1 k2 k3 k4 k5 k6 k7 fz
      obtain ⟨k0, k1, k2, k3, k4, k5, k6, k7⟩ := cells8 HS2.out.blk
      have fz := blk_frozen HS2.out.blk 5
      have SB := HS2.out.put 5 (u := .bool false) (y := (fr 0 n2 0 0 0 false [] [])) (u6 := (.slice none 0 0)) (u7 := (.slice none 0 0)) rfl HS2.out.r6 HS2.out.r7
      have HS3 := Lib.hid SB
      clear SB
      obtain ⟨a, hA⟩ : ∃ a, dataR c2 x2 = a := ⟨_, rfl⟩
      obtain ⟨d4, c4, x4⟩ := a
      have l4 := dataR_len c2 x2
      rw [hA] at l4
      simp only at l4
      obtain ⟨l4a, l4b⟩ := l4
      have N := data_calls HS3.out.rdr (by omega)
      rw [hA] at N
      have HA4 := Lib.hid hA
      have HN := Lib.hid N
      clear N hA
      go_wp2_with fail
      clear k0 k1 k2 k3 k4 k5 k6 k7 fz
      have hfb := blk_lt HS3.out.blk
      refine HN.out.mono ?_
      rintro e w6 ⟨v6, rfl, R, D, K⟩
      obtain ⟨A6, n6, q6, e6⟩ := R_slice R
      subst e6
      have S := HS3.out.keep K D
      obtain ⟨k0, k1, k2, k3, k4, k5, k6, k7⟩ := cells8 S.blk
      have fz := blk_frozen S.blk 6
      have SB := S.put 6 (u := .slice A6 n6 q6) (y := (fr 0 n2 0 0 0 false d4 [])) (u6 := .slice A6 n6 q6) (u7 := (.slice none 0 0)) rfl (Kd.R_lower R hfb) S.r7
      have HS4 := Lib.hid SB
      clear S SB HN R D K hfb
      go_wp2_with fail
      clear k0 k1 k2 k3 k4 k5 k6 k7 fz
      go_meet
      case rel => exact ⟨8, (fr 0 n2 0 0 0 false d4 []), c4, x4, (.slice A6 n6 q6), (.slice none 0 0), rfl, HS4, Lib.hid (by show bodyR 10 c1 x1 = _; unfold bodyR; simp [HA2.out, HA4.out, fr]; done), ⟨by simp [fr], by simp [fr]⟩, by omega, by simp only [fr, List.length_nil]; omega⟩
    by_cases h11 : k = 11
    · subst h11
      obtain ⟨a, hA⟩ : ∃ a, rNum c1 x1 = a := ⟨_, rfl⟩
      obtain ⟨n2, c2, x2⟩ := a
      have b2 := rNum_bd (c := c1) HS1.out.rdr.2.1
      have l2 := rNum_len c1 x1
      rw [hA] at b2 l2
      simp only at b2 l2
      obtain ⟨b2l, b2h⟩ := b2
      have N := num_st HS1.out (by omega)
      rw [hA] at N
      have HA2 := Lib.hid hA
      have HN := Lib.hid N
      clear N hA
      go_wp2_with fail
      refine HN.out.mono ?_
      rintro e w4 ⟨rfl, S⟩
      obtain ⟨k0, k1, k2, k3, k4, k5, k6, k7⟩ := cells8 S.blk
      have fz := blk_frozen S.blk 1
      have SB := S.put 1 (u := .int .u64 n2) (y := (fr 0 n2 0 0 0 false [] [])) (u6 := (.slice none 0 0)) (u7 := (.slice none 0 0)) rfl S.r6 S.r7
      have HS2 := Lib.hid SB
      clear S SB HN
      go_upto_region 29 with fail
      clear k0 k1 k2 k3 k4 k5 k6 k7 fz
      obtain ⟨k0, k1, k2, k3, k4, k5, k6, k7⟩ := cells8 HS2.out.blk
      have fz := blk_frozen HS2.out.blk 5
      have SB := HS2.out.put 5 (u := .bool true) (y := (fr 0 n2 0 0 0 true [] [])) (u6 := (.slice none 0 0)) (u7 := (.slice none 0 0)) rfl HS2.out.r6 HS2.out.r7
      have HS3 := Lib.hid SB
      clear SB
      obtain ⟨a, hA⟩ : ∃ a, dataR c2 x2 = a := ⟨_, rfl⟩
      obtain ⟨d4, c4, x4⟩ := a
      have l4 := dataR_len c2 x2
      rw [hA] at l4
      simp only at l4
      obtain ⟨l4a, l4b⟩ := l4
      have N := data_calls HS3.out.rdr (by omega)
      rw [hA] at N
      have HA4 := Lib.hid hA
      have HN := Lib.hid N
      clear N hA
      go_wp2_with fail
      clear k0 k1 k2 k3 k4 k5 k6 k7 fz
      have hfb := blk_lt HS3.out.blk
      refine HN.out.mono ?_
      rintro e w6 ⟨v6, rfl, R, D, K⟩
      obtain ⟨A6, n6, q6, e6⟩ := R_slice R
      subst e6
      have S := HS3.out.keep K D
      obtain ⟨k0, k1, k2, k3, k4, k5, k6, k7⟩ := cells8 S.blk
      have fz := blk_frozen S.blk 6
      have SB := S.put 6 (u := .slice A6 n6 q6) (y := (fr 0 n2 0 0 0 true d4 [])) (u6 := .slice A6 n6 q6) (u7 := (.slice none 0 0)) rfl (Kd.R_lower R hfb) S.r7
      have HS4 := Lib.hid SB
      clear S SB HN R D K hfb
      go_wp2_with fail
      clear k0 k1 k2 k3 k4 k5 k6 k7 fz
      go_meet
      case rel => exact ⟨8, (fr 0 n2 0 0 0 true d4 []), c4, x4, (.slice A6 n6 q6), (.slice none 0 0), rfl, HS4, Lib.hid (by show bodyR 11 c1 x1 = _; unfold bodyR; simp [HA2.out, HA4.out, fr]; done), ⟨by simp [fr], by simp [fr]⟩, by omega, by simp only [fr, List.length_nil]; omega⟩
    by_cases h14 : k = 14
    · subst h14
      obtain ⟨a, hA⟩ : ∃ a, rNum c1 x1 = a := ⟨_, rfl⟩
      obtain ⟨n2, c2, x2⟩ := a
      have b2 := rNum_bd (c := c1) HS1.out.rdr.2.1
      have l2 := rNum_len c1 x1
      rw [hA] at b2 l2
      simp only at b2 l2
      obtain ⟨b2l, b2h⟩ := b2
      have N := num_st HS1.out (by omega)
      rw [hA] at N
      have HA2 := Lib.hid hA
      have HN := Lib.hid N
      clear N hA
      go_wp2_with fail
      refine HN.out.mono ?_
      rintro e w4 ⟨rfl, S⟩
      obtain ⟨k0, k1, k2, k3, k4, k5, k6, k7⟩ := cells8 S.blk
      have fz := blk_frozen S.blk 1
      have SB := S.put 1 (u := .int .u64 n2) (y := (fr 0 n2 0 0 0 false [] [])) (u6 := (.slice none 0 0)) (u7 := (.slice none 0 0)) rfl S.r6 S.r7
      have HS2 := Lib.hid SB
      clear S SB HN
      obtain ⟨a, hA⟩ : ∃ a, rNum c2 x2 = a := ⟨_, rfl⟩
      obtain ⟨n3, c3, x3⟩ := a
      have b3 := rNum_bd (c := c2) HS2.out.rdr.2.1
      have l3 := rNum_len c2 x2
      rw [hA] at b3 l3
      simp only at b3 l3
      obtain ⟨b3l, b3h⟩ := b3
      have N := num_st HS2.out (by omega)
      rw [hA] at N
      have HA3 := Lib.hid hA
      have HN := Lib.hid N
      clear N hA
      go_wp2_with fail
      clear k0 k1 k2 k3 k4 k5 k6 k7 fz
      refine HN.out.mono ?_
      rintro e w5 ⟨rfl, S⟩
      obtain ⟨k0, k1, k2, k3, k4, k5, k6, k7⟩ := cells8 S.blk
      have fz := blk_frozen S.blk 2
      have SB := S.put 2 (u := .int .u64 n3) (y := (fr 0 n2 n3 0 0 false [] [])) (u6 := (.slice none 0 0)) (u7 := (.slice none 0 0)) rfl S.r6 S.r7
      have HS3 := Lib.hid SB
      clear S SB HN
      go_upto_region 27 with fail
      by_cases hz : n3 = 0
      · clear k0 k1 k2 k3 k4 k5 k6 k7 fz
        subst hz
        obtain ⟨k0, k1, k2, k3, k4, k5, k6, k7⟩ := cells8 HS3.out.blk
        dsimp only [fr] at k2
        have fz := True.intro
        go_wp2_with fail
        clear k0 k1 k2 k3 k4 k5 k6 k7 fz
        refine (fail_st HS3.out 5).mono ?_
        rintro e w6 ⟨rfl, S⟩
        have HS4 := Lib.hid S
        clear S
        go_upto_region 29 with fail
        obtain ⟨k0, k1, k2, k3, k4, k5, k6, k7⟩ := cells8 HS4.out.blk
        have fz := blk_frozen HS4.out.blk 5
        have SB := HS4.out.put 5 (u := .bool false) (y := (fr 0 n2 0 0 0 false [] [])) (u6 := (.slice none 0 0)) (u7 := (.slice none 0 0)) rfl HS4.out.r6 HS4.out.r7
        have HS5 := Lib.hid SB
        clear SB
        obtain ⟨a, hA⟩ : ∃ a, dataR (rFail 5 c3) x3 = a := ⟨_, rfl⟩
        obtain ⟨d6, c6, x6⟩ := a
        have l6 := dataR_len (rFail 5 c3) x3
        rw [hA] at l6
        simp only at l6
        obtain ⟨l6a, l6b⟩ := l6
        have N := data_calls HS5.out.rdr (by omega)
        rw [hA] at N
        have HA6 := Lib.hid hA
        have HN := Lib.hid N
        clear N hA
        go_wp2_with fail
        clear k0 k1 k2 k3 k4 k5 k6 k7 fz
        have hfb := blk_lt HS5.out.blk
        refine HN.out.mono ?_
        rintro e w8 ⟨v6, rfl, R, D, K⟩
        obtain ⟨A6, n6, q6, e6⟩ := R_slice R
        subst e6
        have S := HS5.out.keep K D
        obtain ⟨k0, k1, k2, k3, k4, k5, k6, k7⟩ := cells8 S.blk
        have fz := blk_frozen S.blk 6
        have SB := S.put 6 (u := .slice A6 n6 q6) (y := (fr 0 n2 0 0 0 false d6 [])) (u6 := .slice A6 n6 q6) (u7 := (.slice none 0 0)) rfl (Kd.R_lower R hfb) S.r7
        have HS6 := Lib.hid SB
        clear S SB HN R D K hfb
        go_wp2_with fail
        clear k0 k1 k2 k3 k4 k5 k6 k7 fz
        go_meet
        case rel => exact ⟨8, (fr 0 n2 0 0 0 false d6 []), c6, x6, (.slice A6 n6 q6), (.slice none 0 0), rfl, HS6, Lib.hid (by show bodyR 14 c1 x1 = _; unfold bodyR; simp [HA2.out, HA3.out, HA6.out, fr]; done), ⟨by simp [fr], by simp [fr]⟩, by omega, by simp only [fr, List.length_nil]; omega⟩
      · clear k0 k1 k2 k3 k4 k5 k6 k7 fz
        have t0 : (n3 == 0) = false := by simp [hz]
        have HZ := Lib.hid hz
        clear hz
        obtain ⟨k0, k1, k2, k3, k4, k5, k6, k7⟩ := cells8 HS3.out.blk
        dsimp only [fr] at k2
        have fz := True.intro
        go_upto_region 29 with fail
        clear k0 k1 k2 k3 k4 k5 k6 k7 fz
        obtain ⟨k0, k1, k2, k3, k4, k5, k6, k7⟩ := cells8 HS3.out.blk
        have fz := blk_frozen HS3.out.blk 5
        have SB := HS3.out.put 5 (u := .bool false) (y := (fr 0 n2 n3 0 0 false [] [])) (u6 := (.slice none 0 0)) (u7 := (.slice none 0 0)) rfl HS3.out.r6 HS3.out.r7
        have HS4 := Lib.hid SB
        clear SB
        obtain ⟨a, hA⟩ : ∃ a, dataR c3 x3 = a := ⟨_, rfl⟩
        obtain ⟨d5, c5, x5⟩ := a
        have l5 := dataR_len c3 x3
        rw [hA] at l5
        simp only at l5
        obtain ⟨l5a, l5b⟩ := l5
        have N := data_calls HS4.out.rdr (by omega)
        rw [hA] at N
        have HA5 := Lib.hid hA
        have HN := Lib.hid N
        clear N hA
        go_wp2_with fail
        clear k0 k1 k2 k3 k4 k5 k6 k7 fz
        have hfb := blk_lt HS4.out.blk
        refine HN.out.mono ?_
        rintro e w7 ⟨v6, rfl, R, D, K⟩
        obtain ⟨A6, n6, q6, e6⟩ := R_slice R
        subst e6
        have S := HS4.out.keep K D
        obtain ⟨k0, k1, k2, k3, k4, k5, k6, k7⟩ := cells8 S.blk
        have fz := blk_frozen S.blk 6
        have SB := S.put 6 (u := .slice A6 n6 q6) (y := (fr 0 n2 n3 0 0 false d5 [])) (u6 := .slice A6 n6 q6) (u7 := (.slice none 0 0)) rfl (Kd.R_lower R hfb) S.r7
        have HS5 := Lib.hid SB
        clear S SB HN R D K hfb
        go_wp2_with fail
        clear k0 k1 k2 k3 k4 k5 k6 k7 fz
        go_meet
        case rel => exact ⟨8, (fr 0 n2 n3 0 0 false d5 []), c5, x5, (.slice A6 n6 q6), (.slice none 0 0), rfl, HS5, Lib.hid (by show bodyR 14 c1 x1 = _; unfold bodyR; simp [HA2.out, HA3.out, HZ.out, HA5.out, fr]; done), ⟨b3l, b3h⟩, by omega, by simp only [fr, List.length_nil]; omega⟩
    by_cases h15 : k = 15
    · subst h15
      obtain ⟨a, hA⟩ : ∃ a, rNum c1 x1 = a := ⟨_, rfl⟩
      obtain ⟨n2, c2, x2⟩ := a
      have b2 := rNum_bd (c := c1) HS1.out.rdr.2.1
      have l2 := rNum_len c1 x1
      rw [hA] at b2 l2
      simp only at b2 l2
      obtain ⟨b2l, b2h⟩ := b2
      have N := num_st HS1.out (by omega)
      rw [hA] at N
      have HA2 := Lib.hid hA
      have HN := Lib.hid N
      clear N hA
      go_wp2_with fail
      refine HN.out.mono ?_
      rintro e w4 ⟨rfl, S⟩
      obtain ⟨k0, k1, k2, k3, k4, k5, k6, k7⟩ := cells8 S.blk
      have fz := blk_frozen S.blk 1
      have SB := S.put 1 (u := .int .u64 n2) (y := (fr 0 n2 0 0 0 false [] [])) (u6 := (.slice none 0 0)) (u7 := (.slice none 0 0)) rfl S.r6 S.r7
      have HS2 := Lib.hid SB
      clear S SB HN
      obtain ⟨a, hA⟩ : ∃ a, rNum c2 x2 = a := ⟨_, rfl⟩
      obtain ⟨n3, c3, x3⟩ := a
      have b3 := rNum_bd (c := c2) HS2.out.rdr.2.1
      have l3 := rNum_len c2 x2
      rw [hA] at b3 l3
      simp only at b3 l3
      obtain ⟨b3l, b3h⟩ := b3
      have N := num_st HS2.out (by omega)
      rw [hA] at N
      have HA3 := Lib.hid hA
      have HN := Lib.hid N
      clear N hA
      go_wp2_with fail
      clear k0 k1 k2 k3 k4 k5 k6 k7 fz
      refine HN.out.mono ?_
      rintro e w5 ⟨rfl, S⟩
      obtain ⟨k0, k1, k2, k3, k4, k5, k6, k7⟩ := cells8 S.blk
      have fz := blk_frozen S.blk 2
      have SB := S.put 2 (u := .int .u64 n3) (y := (fr 0 n2 n3 0 0 false [] [])) (u6 := (.slice none 0 0)) (u7 := (.slice none 0 0)) rfl S.r6 S.r7
      have HS3 := Lib.hid SB
      clear S SB HN
      go_upto_region 27 with fail
      by_cases hz : n3 = 0
      · clear k0 k1 k2 k3 k4 k5 k6 k7 fz
        subst hz
        obtain ⟨k0, k1, k2, k3, k4, k5, k6, k7⟩ := cells8 HS3.out.blk
        dsimp only [fr] at k2
        have fz := True.intro
        go_wp2_with fail
        clear k0 k1 k2 k3 k4 k5 k6 k7 fz
        refine (fail_st HS3.out 5).mono ?_
        rintro e w6 ⟨rfl, S⟩
        have HS4 := Lib.hid S
        clear S
        go_upto_region 29 with fail
        obtain ⟨k0, k1, k2, k3, k4, k5, k6, k7⟩ := cells8 HS4.out.blk
        have fz := blk_frozen HS4.out.blk 5
        have SB := HS4.out.put 5 (u := .bool true) (y := (fr 0 n2 0 0 0 true [] [])) (u6 := (.slice none 0 0)) (u7 := (.slice none 0 0)) rfl HS4.out.r6 HS4.out.r7
        have HS5 := Lib.hid SB
        clear SB
        obtain ⟨a, hA⟩ : ∃ a, dataR (rFail 5 c3) x3 = a := ⟨_, rfl⟩
        obtain ⟨d6, c6, x6⟩ := a
        have l6 := dataR_len (rFail 5 c3) x3
        rw [hA] at l6
        simp only at l6
        obtain ⟨l6a, l6b⟩ := l6
        have N := data_calls HS5.out.rdr (by omega)
        rw [hA] at N
        have HA6 := Lib.hid hA
        have HN := Lib.hid N
        clear N hA
        go_wp2_with fail
        clear k0 k1 k2 k3 k4 k5 k6 k7 fz
        have hfb := blk_lt HS5.out.blk
        refine HN.out.mono ?_
        rintro e w8 ⟨v6, rfl, R, D, K⟩
        obtain ⟨A6, n6, q6, e6⟩ := R_slice R
        subst e6
        have S := HS5.out.keep K D
        obtain ⟨k0, k1, k2, k3, k4, k5, k6, k7⟩ := cells8 S.blk
        have fz := blk_frozen S.blk 6
        have SB := S.put 6 (u := .slice A6 n6 q6) (y := (fr 0 n2 0 0 0 true d6 [])) (u6 := .slice A6 n6 q6) (u7 := (.slice none 0 0)) rfl (Kd.R_lower R hfb) S.r7
        have HS6 := Lib.hid SB
        clear S SB HN R D K hfb
        go_wp2_with fail
        clear k0 k1 k2 k3 k4 k5 k6 k7 fz
        go_meet
        case rel => exact ⟨8, (fr 0 n2 0 0 0 true d6 []), c6, x6, (.slice A6 n6 q6), (.slice none 0 0), rfl, HS6, Lib.hid (by show bodyR 15 c1 x1 = _; unfold bodyR; simp [HA2.out, HA3.out, HA6.out, fr]; done), ⟨by simp [fr], by simp [fr]⟩, by omega, by simp only [fr, List.length_nil]; omega⟩
      · clear k0 k1 k2 k3 k4 k5 k6 k7 fz
        have t0 : (n3 == 0) = false := by simp [hz]
        have HZ := Lib.hid hz
        clear hz
        obtain ⟨k0, k1, k2, k3, k4, k5, k6, k7⟩ := cells8 HS3.out.blk
        dsimp only [fr] at k2
        have fz := True.intro
        go_upto_region 29 with fail
        clear k0 k1 k2 k3 k4 k5 k6 k7 fz
        obtain ⟨k0, k1, k2, k3, k4, k5, k6, k7⟩ := cells8 HS3.out.blk
        have fz := blk_frozen HS3.out.blk 5
        have SB := HS3.out.put 5 (u := .bool true) (y := (fr 0 n2 n3 0 0 true [] [])) (u6 := (.slice none 0 0)) (u7 := (.slice none 0 0)) rfl HS3.out.r6 HS3.out.r7
        have HS4 := Lib.hid SB
        clear SB
        obtain ⟨a, hA⟩ : ∃ a, dataR c3 x3 = a := ⟨_, rfl⟩
        obtain ⟨d5, c5, x5⟩ := a
        have l5 := dataR_len c3 x3
        rw [hA] at l5
        simp only at l5
        obtain ⟨l5a, l5b⟩ := l5
        have N := data_calls HS4.out.rdr (by omega)
        rw [hA] at N
        have HA5 := Lib.hid hA
        have HN := Lib.hid N
        clear N hA
        go_wp2_with fail
        clear k0 k1 k2 k3 k4 k5 k6 k7 fz
        have hfb := blk_lt HS4.out.blk
        refine HN.out.mono ?_
        rintro e w7 ⟨v6, rfl, R, D, K⟩
        obtain ⟨A6, n6, q6, e6⟩ := R_slice R
        subst e6
        have S := HS4.out.keep K D
        obtain ⟨k0, k1, k2, k3, k4, k5, k6, k7⟩ := cells8 S.blk
        have fz := blk_frozen S.blk 6
        have SB := S.put 6 (u := .slice A6 n6 q6) (y := (fr 0 n2 n3 0 0 true d5 [])) (u6 := .slice A6 n6 q6) (u7 := (.slice none 0 0)) rfl (Kd.R_lower R hfb) S.r7
        have HS5 := Lib.hid SB
        clear S SB HN R D K hfb
        go_wp2_with fail
        clear k0 k1 k2 k3 k4 k5 k6 k7 fz
        go_meet
        case rel => exact ⟨8, (fr 0 n2 n3 0 0 true d5 []), c5, x5, (.slice A6 n6 q6), (.slice none 0 0), rfl, HS5, Lib.hid (by show bodyR 15 c1 x1 = _; unfold bodyR; simp [HA2.out, HA3.out, HZ.out, HA5.out, fr]; done), ⟨b3l, b3h⟩, by omega, by simp only [fr, List.length_nil]; omega⟩
    by_cases h2 : k = 2
    · subst h2
      go_wp2_with fail
      obtain ⟨a, hA⟩ : ∃ a, acksR c1 x1 = a := ⟨_, rfl⟩
      obtain ⟨l4, n2, c4, x4⟩ := a
      have hl4 := acksR_len c1 x1
      have hlt := blk_lt HS1.out.blk
      have N := acks_calls HS1.out.rdr (by omega) (by have := HS1.out.d0; have := HS1.out.kp.size; omega)
      rw [hA] at N hl4
      simp only [boxOf, fr] at N
      have HA := Lib.hid hA
      refine N.mono ?_
      clear N hA
      rintro e w4 ⟨v7, rfl, R7, D4, K4⟩
      obtain ⟨A7, n7, q7, e7⟩ := R_slice R7
      subst e7
      have S4 := HS1.out.keep K4 D4
      obtain ⟨k0, k1, k2, k3, k4, k5, k6, k7⟩ := cells8 S4.blk
      have z0 := blk_frozen S4.blk 0; have z1 := blk_frozen S4.blk 1; have z2 := blk_frozen S4.blk 2; have z3 := blk_frozen S4.blk 3
      have z4 := blk_frozen S4.blk 4; have z5 := blk_frozen S4.blk 5; have z6 := blk_frozen S4.blk 6; have z7 := blk_frozen S4.blk 7
      have HS4 := Lib.hid (over84 (n := n2) S4 (Kd.R_lower R7 (by omega)))
      clear S4 K4 D4 R7
      go_wp2_with fail
      go_meet
      case rel => exact ⟨2, fr 0 0 0 n2 0 false [] l4, c4, x4, _, _, rfl, HS4, Lib.hid (by show bodyR 2 c1 x1 = _; unfold bodyR; simp [HA.out, fr]; done), ⟨by simp [fr], by simp [fr]⟩, by have h : x4.length ≤ x1.length := hl4; omega, by simp only [fr, List.length_nil]; omega⟩
    have g0 : (k == 0) = false := by simp [h0]
    have g1 : (k == 1) = false := by simp [h1]
    have g30 : (k == 30) = false := by simp [h30]
    have g2 : (k == 2) = false := by simp [h2]
    have g4 : (k == 4) = false := by simp [h4]
    have g5 : (k == 5) = false := by simp [h5]
    have g6 : (k == 6) = false := by simp [h6]
    have g10 : (k == 10) = false := by simp [h10]
    have g11 : (k == 11) = false := by simp [h11]
    have g14 : (k == 14) = false := by simp [h14]
    have g15 : (k == 15) = false := by simp [h15]
    have g16 : (k == 16) = false := by simp [h16]
    have g18 : (k == 18) = false := by simp [h18]
    have g17 : (k == 17) = false := by simp [h17]
    have g28 : (k == 28) = false := by simp [h28]
    have HH := Lib.hid (And.intro h0 (And.intro h1 (And.intro h30 (And.intro h2 (And.intro h4 (And.intro h5 (And.intro h6 (And.intro h10 (And.intro h11 (And.intro h14 (And.intro h15 (And.intro h16 (And.intro h18 (And.intro h17 h28))))))))))))))
    clear h0 h1 h30 h2 h4 h5 h6 h10 h11 h14 h15 h16 h18 h17 h28
    go_wp2_with fail
    refine (fail_st HS1.out 6).mono ?_
    rintro e w4 ⟨rfl, S4⟩
    have HS4 := Lib.hid S4
    clear S4
    go_wp2_with fail
    go_meet
    case rel =>
      have hb : bodyR k c1 x1 = (fr k 0 0 0 0 false [] [], rFail 6 c1, x1) := by
        obtain ⟨h0, h1, h30, h2, h4, h5, h6, h10, h11, h14, h15, h16, h18, h17, h28⟩ := HH.out
        unfold bodyR
        simp [h0, h1, h30, h2, h4, h5, h6, h10, h11, h14, h15, h16, h18, h17, h28]
      exact ⟨k, z58, rFail 6 c1, x1, .slice none 0 0, .slice none 0 0, rfl, HS4, Lib.hid hb, ⟨by simp [z58], by simp [z58]⟩, by omega, by simp only [z58, List.length_nil]; omega⟩
  case rest =>
    obtain ⟨kf, x, c', xs', v6, v7, rfl, HS, HBR, ⟨bf0, bf1⟩, hxl, hdl⟩ := hcut
    obtain ⟨A6, q6, e6, -, -, -⟩ := HS.out.r6.read
    obtain ⟨A7, n7, q7, e7⟩ := R_slice HS.out.r7
    subst e6
    subst e7
    obtain ⟨k0, k1, k2, k3, k4, k5, k6, k7⟩ := cells8 HS.out.blk
    have fz := blk_frozen HS.out.blk 0
    go_upto_region 42 with fail
    clear k0 k1 k2 k3 k4 k5 k6 k7 fz
    have HS2 := Lib.hid (HS.out.put 0 (u := .int .u64 kf) (y := ⟨kf, x.f1, x.f2, x.f3, x.f4, x.f5, x.f6, x.f7⟩) (u6 := .slice A6 x.f6.length q6) (u7 := .slice A7 n7 q7) rfl HS.out.r6 HS.out.r7)
    generalize (wc.setCell { block := fb, off := 0 } (Value.int IntKind.u64 kf)) = wd at *
    clear HS HS1
    have hwl : IntKind.u64.wrap (x.f6.length : Int) = x.f6.length := by rw [IntKind.wrap_u64]; omega
    have hws : IntKind.u64.wrap (4611686018427387903 - (x.f6.length : Int)) = 4611686018427387903 - (x.f6.length : Int) := by rw [IntKind.wrap_u64]; omega
    obtain ⟨k0, k1, k2, k3, k4, k5, k6, k7⟩ := cells8 HS2.out.blk
    by_cases hfar : x.f2 > 4611686018427387903 - (x.f6.length : Int)
    · go_wp2_with fail
      clear k0 k1 k2 k3 k4 k5 k6 k7
      refine (fail_st HS2.out 2).mono ?_
      rintro e w9 ⟨rfl, S9⟩
      have HS9 := Lib.hid S9
      clear S9 HS2
      obtain ⟨k0, k1, k2, k3, k4, k5, k6, k7⟩ := cells8 HS9.out.blk
      have hrb := HS9.out.kp.blk HK1.out (by omega)
      have z0 := blk_frozen hrb 0; have z1 := blk_frozen hrb 1; have z2 := blk_frozen hrb 2; have z3 := blk_frozen hrb 3
      have z4 := blk_frozen hrb 4; have z5 := blk_frozen hrb 5; have z6 := blk_frozen hrb 6; have z7 := blk_frozen hrb 7
      have y0 := blk_cell hrb 0; have y1 := blk_cell hrb 1; have y2 := blk_cell hrb 2; have y3 := blk_cell hrb 3
      have y4 := blk_cell hrb 4; have y5 := blk_cell hrb 5; have y6 := blk_cell hrb 6; have y7 := blk_cell hrb 7
      have hne : w.heap.size ≠ fb := by omega
      clear hrb
      go_wp2_with fail
      clear k0 k1 k2 k3 k4 k5 k6 k7 z0 z1 z2 z3 z4 z5 z6 z7 y0 y1 y2 y3 y4 y5 y6 y7
      obtain ⟨W, hW, hb, r6, r7, rd, kp⟩ := handed HS9.out (Kp.of_below HB1.out) rfl HK1.out hp hd
      simp only at hW
      rw [← hW]
      refine bodyPost_ret (ends (by kernel_rfl) rfl hb) rfl ?_
      have et := HT.out
      rw [HBR.out] at et
      unfold farR at et
      simp only at et
      rw [if_pos hfar] at et
      subst et
      exact ⟨_, _, rfl, r6, r7, rd, kp⟩
    · go_upto_region 44 with fail
      clear k0 k1 k2 k3 k4 k5 k6 k7
      have HS9 := HS2
      obtain ⟨k0, k1, k2, k3, k4, k5, k6, k7⟩ := cells8 HS9.out.blk
      have hrb := HS9.out.kp.blk HK1.out (by omega)
      have z0 := blk_frozen hrb 0; have z1 := blk_frozen hrb 1; have z2 := blk_frozen hrb 2; have z3 := blk_frozen hrb 3
      have z4 := blk_frozen hrb 4; have z5 := blk_frozen hrb 5; have z6 := blk_frozen hrb 6; have z7 := blk_frozen hrb 7
      have y0 := blk_cell hrb 0; have y1 := blk_cell hrb 1; have y2 := blk_cell hrb 2; have y3 := blk_cell hrb 3
      have y4 := blk_cell hrb 4; have y5 := blk_cell hrb 5; have y6 := blk_cell hrb 6; have y7 := blk_cell hrb 7
      have hne : w.heap.size ≠ fb := by omega
      clear hrb
      go_wp2_with fail
      clear k0 k1 k2 k3 k4 k5 k6 k7 z0 z1 z2 z3 z4 z5 z6 z7 y0 y1 y2 y3 y4 y5 y6 y7
      obtain ⟨W, hW, hb, r6, r7, rd, kp⟩ := handed HS9.out (Kp.of_below HB1.out) rfl HK1.out hp hd
      simp only at hW
      rw [← hW]
      refine bodyPost_ret (ends (by kernel_rfl) rfl hb) rfl ?_
      have et := HT.out
      rw [HBR.out] at et
      unfold farR at et
      simp only at et
      rw [if_neg (by omega)] at et
      subst et
      exact ⟨_, _, rfl, r6, r7, rd, kp⟩
end Go.Proofs.Ytmccghadgihbpaa.ParseOne


namespace Go.Proofs.Ytmccghadgihbpaa.Parse
open Go Go.RowKit Go.Proofs.Ytmccghadgihbpaa.PFrameBack Go.Proofs.YtmccghadgihbpaaW.PrintWords Go.Proofs.YtmccghadgihbpaaW.PrintLast Go.Proofs.YtmccghadgihbpaaW.PrintMore Go.Proofs.Ytmccghadgihbpaa.Keep Go.Proofs.Ytmccghadgihbpaa.Mem Go.Proofs.Ytmccghadgihbpaa.Reader Go.Proofs.Ytmccghadgihbpaa.Take Go.Proofs.Ytmccghadgihbpaa.ParseS Go.Proofs.Ytmccghadgihbpaa.ParseW Go.Proofs.Ytmccghadgihbpaa.ParseOne
set_option linter.unusedVariables false

theorem info58 : (Try.prog.info? 58).map (fun i => (i.zero, i.size, i.bytes)) = some (some (.agg #[.int .u64 0, .int .u64 0, .int .u64 0, .int .u64 0, .int .u64 0, .bool false, .slice none 0 0, .slice none 0 0]), 8, 96) := by kernel_rfl

/-- 'append(l, f)', frames: one, laid into a block of its own just ahead; its rows lie in blocks from B2 on. -/
theorem app58 {ops : Array Oper} {rest : List Oper} {o : Oper} {a : Act} {Q : Exit → Act → World → Prop} {W w0 : World} (base B2 : Nat) (hgd : o.guard = none) (s x : Operand) (ho : o.op = .call { callee := .builtin .append, args := #[s, x], argTypes := #[60, 60] })
    {v v6 v7 : Value} {xs : List S58} {q : S58} (HO : k58.R 58 W base (fun _ => True) v xs) (hs : a.eval s = v) (hx : a.eval x = .slice (some ⟨W.heap.size, 0, none⟩) 1 1) (h6 : RB W B2 v6 q.f6) (h7 : k84.R 84 W B2 (fun _ => True) v7 q.f7) (hb2 : base ≤ B2) (hown : ∀ k, v.ownBlock = some k → k < B2) (hB : Below base w0 W) (hbase : base ≤ W.heap.size)
    (hl : xs.length + 1 ≤ 1000000)
    (h : ∀ v1 w1, k58.R 58 w1 base (fun _ => True) v1 (xs ++ [q]) → Below base w0 w1 → W.grownBy w1 v.ownBlock → (v1.ownBlock = v.ownBlock ∨ ∃ b, v1.ownBlock = some b ∧ W.heap.size ≤ b) → wpList Try.prog ops Q rest (a.put o.dst v1) w1) :
    wpList Try.prog ops Q (o :: rest) a (W.alloc (.cells #[.int .u64 q.f0, .int .u64 q.f1, .int .u64 q.f2, .int .u64 q.f3, .int .u64 q.f4, .bool q.f5, v6, v7] 58)) :=
  Kd.R_append k58 (w0 := w0) base hgd s x 60 58 (.agg #[.int .u64 0, .int .u64 0, .int .u64 0, .int .u64 0, .int .u64 0, .bool false, .slice none 0 0, .slice none 0 0]) 96 ho Try.underlying60 info58 rfl (by decide) (by decide) v xs q [.int .u64 q.f0, .int .u64 q.f1, .int .u64 q.f2, .int .u64 q.f3, .int .u64 q.f4, .bool q.f5, v6, v7] (fun _ => True) (fun k => B2 ≤ k) hs hx
    (k58_mkM W base (fun k => B2 ≤ k) q (Kd.R_lower (Kd.R_mono (Kd.R_bound h6) (fun k hk => hk.2.1)) hb2) (Kd.R_lower (Kd.R_mono (Kd.R_bound h7) (fun k hk => hk.2.1)) hb2)) (fun k hk => ⟨trivial, fun e => by have := hown k e.symm; omega⟩) (fun _ _ => trivial) HO hB hbase (by omega) h

theorem bodyR_len (k c : Int) (xs : List Int) : (bodyR k c xs).2.2.length ≤ xs.length := by
  have N : ∀ c x, (rNum c x).2.2.length ≤ x.length := rNum_len
  have D : ∀ c x, (dataR c x).2.2.length ≤ x.length := fun c x => (dataR_len c x).2
  unfold bodyR
  repeat' split
  all_goals simp only
  · exact Nat.le_refl _
  · exact acksR_len c xs
  · exact Nat.le_trans (N _ _) (Nat.le_trans (N _ _) (N _ _))
  · exact Nat.le_trans (N _ _) (N _ _)
  · exact Nat.le_trans (D _ _) (N _ _)
  · exact Nat.le_trans (D _ _) (N _ _)
  · exact Nat.le_trans (D _ _) (Nat.le_trans (N _ _) (N _ _))
  · exact N _ _
  · exact Nat.le_trans (N _ _) (N _ _)
  · exact Nat.le_trans (D _ _) (N _ _)
  · exact Nat.le_refl _

/-! a fault stays -/
theorem rFail_stick {n c : Int} (h : c ≠ 0) : rFail n c = c := by unfold rFail; rw [if_neg h]
theorem rBytes_stick {c : Int} {xs : List Int} {n : Int} (h : c ≠ 0) : (rBytes c xs n).2.1 = c := by unfold rBytes; rw [if_pos h]
theorem rNum_stick {c : Int} {xs : List Int} (h : c ≠ 0) : (rNum c xs).2.1 = c := by
  unfold rNum
  split
  · exact rFail_stick h
  · exact rBytes_stick h
theorem dataR_stick {c : Int} {xs : List Int} (h : c ≠ 0) : (dataR c xs).2.1 = c := by
  unfold dataR
  have h1 : (rNum c xs).2.1 = c := rNum_stick h
  have h2 : (if (rNum c xs).1 > 2048 then rFail 8 (rNum c xs).2.1 else (rNum c xs).2.1) = c := by
    split
    · rw [h1, rFail_stick h]
    · exact h1
  rw [h2]
  exact rBytes_stick h
theorem ifq2 {cc n c : Int} {x : List Int} {A : List S84 × Int × List Int} (hc : c ≠ 0) (h1 : cc = c) : (if cc ≠ 0 then (([] : List S84), n, cc, x) else (A.1, n, A.2)).2.2.1 = c := by
  subst h1
  rw [if_pos hc]
theorem acksR_stick {c : Int} {xs : List Int} (h : c ≠ 0) : (acksR c xs).2.2.1 = c := by
  unfold acksR
  refine ifq2 h ?_
  have h1 : (rNum c xs).2.1 = c := rNum_stick h
  rw [h1]
  have h2 : (rNum c (rNum c xs).2.2).2.1 = c := rNum_stick h
  rw [h2]
  have h3 : (rNum c (rNum c (rNum c xs).2.2).2.2).2.1 = c := rNum_stick h
  rw [h3]
  have h4 : (rNum c (rNum c (rNum c (rNum c xs).2.2).2.2).2.2).2.1 = c := rNum_stick h
  rw [h4]
  split
  · exact rFail_stick h
  · rfl
theorem bodyR_stick {k c : Int} {xs : List Int} (h : c ≠ 0) : (bodyR k c xs).2.1 = c := by
  have N : ∀ x, (rNum c x).2.1 = c := fun x => rNum_stick h
  have D : ∀ x, (dataR c x).2.1 = c := fun x => dataR_stick h
  have F : ∀ n, rFail n c = c := fun n => rFail_stick h
  unfold bodyR
  by_cases a0 : k = 0 ∨ k = 1 ∨ k = 30
  · rw [if_pos a0]
  rw [if_neg a0]
  by_cases a2 : k = 2
  · rw [if_pos a2]; exact acksR_stick h
  rw [if_neg a2]
  by_cases a4 : k = 4
  · rw [if_pos a4]; simp only [N]
  rw [if_neg a4]
  by_cases a5 : k = 5
  · rw [if_pos a5]; simp only [N]
  rw [if_neg a5]
  by_cases a6 : k = 6
  · rw [if_pos a6]; simp only [N, D]
  rw [if_neg a6]
  by_cases a10 : k = 10 ∨ k = 11
  · rw [if_pos a10]; simp only [N, D]
  rw [if_neg a10]
  by_cases a14 : k = 14 ∨ k = 15
  · rw [if_pos a14]; simp only [N, F, ite_self, D]
  rw [if_neg a14]
  by_cases a16 : k = 16 ∨ k = 18
  · rw [if_pos a16]; simp only [N]
  rw [if_neg a16]
  by_cases a17 : k = 17
  · rw [if_pos a17]; simp only [N]
  rw [if_neg a17]
  by_cases a28 : k = 28
  · rw [if_pos a28]; simp only [N, D]
  rw [if_neg a28]
  exact F 6
theorem farR_stick {r : S58 × Int × List Int} (h : r.2.1 ≠ 0) : (farR r).2.1 ≠ 0 := by
  unfold farR
  simp only
  split
  · rw [rFail_stick h]; exact h
  · exact h
theorem rNum_less {x : Int} {r : List Int} (h : (rNum 0 (x :: r)).2.1 = 0) : (rNum 0 (x :: r)).2.2.length < (x :: r).length := by
  unfold rNum at h ⊢
  simp only at h ⊢
  unfold rBytes at h ⊢
  rw [if_neg (by simp)] at h ⊢
  have h1 : (0 : Int) < 2 ^ (x / 64).toNat := Int.pow_pos (by decide)
  split at h
  · cases h
  · rename_i hle
    rw [if_neg hle]
    simp only [List.length_drop]
    simp only [List.length_cons] at *
    omega
theorem oneR_less {x : Int} {r : List Int} (h : (oneR 0 (x :: r)).2.1 = 0) : (oneR 0 (x :: r)).2.2.length < (x :: r).length := by
  unfold oneR at h ⊢
  by_cases hc : (rNum 0 (x :: r)).2.1 = 0
  · have h1 := rNum_less hc
    have h2 := bodyR_len (rNum 0 (x :: r)).1 (rNum 0 (x :: r)).2.1 (rNum 0 (x :: r)).2.2
    show (bodyR _ _ _).2.2.length < _
    omega
  · exact absurd h (farR_stick (by rw [bodyR_stick hc]; exact hc))

theorem parseL_more : ∀ (n : Nat) (xs : List Int) (out : List S58) (m : Nat), xs.length ≤ n → n ≤ m → parseL m xs out = parseL n xs out := by
  intro n
  induction n with
  | zero =>
    intro xs out m hx hm
    have : xs = [] := List.eq_nil_of_length_eq_zero (by omega)
    subst this
    cases m with
    | zero => rfl
    | succ m => simp [parseL]
  | succ n ih =>
    intro xs out m hx hm
    obtain ⟨m, rfl⟩ : ∃ q, m = q + 1 := ⟨m - 1, by omega⟩
    cases xs with
    | nil => simp [parseL]
    | cons x r =>
      unfold parseL
      by_cases hc : (oneR 0 (x :: r)).2.1 = 0
      · have hl := oneR_less hc
        simp only [List.length_cons] at hl hx
        rw [ih _ _ m (by omega) (by omega), ih _ _ m (by omega) (by omega)]
      · simp [hc]

theorem cells8b {w : World} {b : Nat} {c0 c1 c2 c3 c4 c5 c6 c7 : Value} {T : TypeId} (h : w.heap[b]? = some (.cells #[c0, c1, c2, c3, c4, c5, c6, c7] T (0, 0))) :
    w.cell? ⟨b, 0, none⟩ = some c0 ∧ w.cell? ⟨b, 1, none⟩ = some c1 ∧ w.cell? ⟨b, 2, none⟩ = some c2 ∧ w.cell? ⟨b, 3, none⟩ = some c3 ∧ w.cell? ⟨b, 4, none⟩ = some c4 ∧ w.cell? ⟨b, 5, none⟩ = some c5 ∧ w.cell? ⟨b, 6, none⟩ = some c6 ∧ w.cell? ⟨b, 7, none⟩ = some c7 :=
  ⟨blk_cell h 0, blk_cell h 1, blk_cell h 2, blk_cell h 3, blk_cell h 4, blk_cell h 5, blk_cell h 6, blk_cell h 7⟩

theorem Rdr_d {w : World} {p d : Nat} {c : Int} {xs : List Int} (h : Rdr w p d c xs) (hx : xs ≠ []) : d < w.heap.size := by
  obtain ⟨h1, h4, A, cc, hb, hc, hC, hA⟩ := h
  have hn : 0 < xs.length := by
    cases xs with
    | nil => exact absurd rfl hx
    | cons x r => simp
  obtain ⟨a, ha, -⟩ := hC.2.2 hn
  subst ha
  rw [← (hA a rfl hn).1]
  exact C_lt hC hn

theorem out_len_ne {α : Type} {l : List α} (h : l.length ≤ 64) (hn : ¬ l.length = 64) : l.length + 1 ≤ 64 := by omega

set_option maxHeartbeats 4000000 in
set_option maxRecDepth 100000 in
theorem parse_calls {w : World} {A : Option Addr} {c : Nat} {b : List Int} (hC : CB w A b) (hc : b.length ≤ c) (hx : ∀ x ∈ b, 0 ≤ x ∧ x < 256) (hl : b.length ≤ 10000000) :
    Calls Try.prog 44 #[.slice A b.length c] w fun e w' => ∃ v, e = .returned (.tuple #[v, .int .i64 (parseR b).2]) ∧ k58.R 58 w' w.heap.size (fun _ => True) v (parseR b).1 ∧ Below w.heap.size w w' := by
  obtain ⟨t, ht⟩ : ∃ t, parseR b = t := ⟨_, rfl⟩
  rw [ht]
  unfold parseR at ht
  have HT := Lib.hid ht
  have N := new_calls hC hc hx (by omega)
  have HN := Lib.hid N
  clear ht N hC hx
  go_enter Try.func44, Try.ntmps44
  go_wp2_with fail
  refine HN.out.mono ?_
  rintro e w1 ⟨p, d, rfl, D1, B1, hp, hd⟩
  have hp1 := D1.1
  have hd1 : d < w1.heap.size ∨ w1.heap.size ≤ d := by omega
  have HD1 := Lib.hid D1
  have HB1 := Lib.hid B1
  clear D1 B1 HN
  go_wp2_with fail
  go_loopg [5] b.length (fun g v5 wr => ∃ (xs : List Int) (out : List S58), xs.length ≤ g ∧ g ≤ b.length ∧ out.length ≤ 64 ∧ (xs = [] ∨ d < w1.heap.size) ∧ Hid (Rdr wr p d 0 xs) ∧ Hid (k58.R 58 wr w1.heap.size (fun _ => True) v5 out) ∧ Hid (Kp p w1 wr) ∧ Hid (t = parseL xs.length xs out))
  case atStart =>
    refine ⟨b, [], Nat.le_refl _, Nat.le_refl _, by simp, ?_, HD1, Lib.hid (Kd.R_nil _ _ _ _ _), Lib.hid (Kp.refl _ _), Lib.hid HT.out.symm⟩
    by_cases hb : b = []
    · exact .inl hb
    · exact .inr (Rdr_d HD1.out hb)
  case round =>
    obtain ⟨xs, out, hxg, hgb, hol, hdd, HR, HO, HK, HTT⟩ := hrel
    clear HT HD1
    obtain ⟨A5, c5, e5⟩ : ∃ A c, u5 = Value.slice A out.length c := by
      obtain ⟨A, c, e, -, -⟩ := Kd.R_reads HO.out
      exact ⟨A, c, e⟩
    subst e5
    by_cases hxs : xs = []
    · subst hxs
      go_wp2_with fail
      refine (left_calls HR.out).mono ?_
      rintro e w2 ⟨rfl, rfl⟩
      go_wp2_with fail
      go_ret2
      have et := HTT.out
      simp [parseL] at et
      subst et
      exact ⟨_, rfl, Kd.R_lower HO.out HB1.out.size, HK.out.below HB1.out HB1.out.size hp⟩
    · have hd2 : d < w1.heap.size := by rcases hdd with h | h; exact absurd h hxs; exact h
      have hpos : 0 < xs.length := by
        cases xs with
        | nil => exact absurd rfl hxs
        | cons x r => simp
      have hks := HK.out.size
      have ON := one_calls HR.out (by omega) (by omega)
      have htt := HTT.out
      obtain ⟨m, hm⟩ : ∃ m, xs.length = m + 1 := ⟨xs.length - 1, by omega⟩
      rw [hm] at htt
      unfold parseL at htt
      rw [if_neg hxs] at htt
      have hless : (oneR 0 xs).2.1 = 0 → (oneR 0 xs).2.2.length < xs.length := by
        intro h
        cases xs with
        | nil => exact absurd rfl hxs
        | cons x r => exact oneR_less h
      generalize oneR 0 xs = f at *
      obtain ⟨q, c2, xs2⟩ := f
      simp only at ON htt hless
      simp only [boxOf] at ON
      have HON := Lib.hid ON
      have HT2 := Lib.hid htt
      have HLS := Lib.hid hless
      have HM := Lib.hid hm
      clear ON htt hless hxs hdd HTT hm
      go_wp2_with fail
      refine (left_calls HR.out).mono ?_
      rintro e w2 ⟨rfl, rfl⟩
      go_wp2_with fail
      refine HON.out.mono ?_
      rintro e w2 ⟨v6, v7, rfl, R6, R7, D2, K2⟩
      obtain ⟨A6, n6, q6, e6⟩ := R_slice R6
      obtain ⟨A7, n7, q7, e7⟩ := R_slice R7
      subst e6
      subst e7
      have HR2 := Lib.hid D2
      have HO2 := Lib.hid (K2.R HO.out hp1)
      have HK2 := Lib.hid (HK.out.trans K2)
      have hown := Lib.hid (R_block HO.out)
      have HR6 := Lib.hid R6
      have HR7 := Lib.hid R7
      have hs2 := K2.size
      clear D2 K2 R6 R7 HR HON
      go_wp2_with fail
      have B3 := (Below.refl w2.heap.size w2).alloc (Nat.le_refl _) (.cells #[.int .u64 q.f0, .int .u64 q.f1, .int .u64 q.f2, .int .u64 q.f3, .int .u64 q.f4, .bool q.f5, .slice A6 n6 q6, .slice A7 n7 q7] 58)
      have hk3 := heap_alloc_new w2 (.cells #[.int .u64 q.f0, .int .u64 q.f1, .int .u64 q.f2, .int .u64 q.f3, .int .u64 q.f4, .bool q.f5, .slice A6 n6 q6, .slice A7 n7 q7] 58)
      obtain ⟨w3, hw3⟩ : ∃ w3 : World, w2.alloc (.cells #[.int .u64 q.f0, .int .u64 q.f1, .int .u64 q.f2, .int .u64 q.f3, .int .u64 q.f4, .bool q.f5, .slice A6 n6 q6, .slice A7 n7 q7] 58) = w3 := ⟨_, rfl⟩
      rw [hw3] at B3 hk3 ⊢
      have HR3 := Lib.hid (HR2.out.below B3)
      have HO3 := Lib.hid (Kd.R_below HO2.out B3)
      have HK3 := Lib.hid (HK2.out.trans (Kp.of_below B3))
      have HR63 := Lib.hid (Kd.R_below HR6.out B3)
      have HR73 := Lib.hid (Kd.R_below HR7.out B3)
      have HB3 := Lib.hid hk3
      have hs3 := B3.size
      clear hw3 B3 hk3 HR2 HO2 HK2 HR6 HR7
      refine (code_calls HR3.out).mono ?_
      rintro e w4 ⟨rfl, rfl⟩
      by_cases hc2 : c2 = 0
      · subst hc2
        have hls := HLS.out rfl
        have htt := HT2.out
        rw [if_neg (by simp)] at htt
        have HT3 := Lib.hid htt
        clear htt HT2
        obtain ⟨k0, k1, k2, k3, k4, k5, k6, k7⟩ := cells8b HB3.out
        by_cases hk : q.f0 = 0
        · have tk : (q.f0 == 0) = true := by simp [hk]
          have HKQ := Lib.hid hk
          clear hk
          go_wp2_with fail
          clear k0 k1 k2 k3 k4 k5 k6 k7
          go_roundg xs2.length
          case measure => omega
          case rel => exact ⟨xs2, out, Nat.le_refl _, by omega, hol, .inr hd2, HR3, HO3, HK3, Lib.hid (by have et := HT3.out; rw [if_pos HKQ.out] at et; rw [et]; exact parseL_more _ _ _ _ (Nat.le_refl _) (by have := HM.out; omega))⟩
        · have tk : (q.f0 == 0) = false := by simp [hk]
          have HKQ := Lib.hid hk
          clear hk
          by_cases h64 : out.length = 64
          · have t64 : ((out.length : Int) == 64) = true := by simp [h64]
            have H64 := Lib.hid h64
            clear h64
            go_wp2_with fail
            go_ret2
            have et := HT3.out
            rw [if_neg HKQ.out, if_pos H64.out] at et
            subst et
            exact ⟨_, rfl, Kd.R_nil _ _ _ _ _, HK3.out.below HB1.out HB1.out.size hp⟩
          · have t64 : ((out.length : Int) == 64) = false := by simp; omega
            have H64 := Lib.hid h64
            have hol2 : out.length + 1 ≤ 64 := by omega
            clear h64
            go_wp2_with (first
              | ((with_reducible refine gate_builtin (b := .append) (xs := #[.tmp 25, .tmp 27]) rfl ?_); refine app58 (w0 := w3) w1.heap.size wr.heap.size rfl (.tmp 25) (.tmp 27) rfl (q := q) HO3.out rfl rfl HR63.out HR73.out hks (fun k hk => (hown.out k hk).2) (Below.refl _ _) (by omega) (by omega) ?_; intro v8 w8 R8 B8 G8 N8; clear G8 N8))
            clear k0 k1 k2 k3 k4 k5 k6 k7
            have HR8 := Lib.hid (HR3.out.stays B8.size (B8.block p (by omega)) (fun _ => B8.block d (by omega)))
            have HO8 := Lib.hid R8
            have HK8 : Hid (Kp p w1 w8) := Lib.hid ⟨B8.os.trans HK3.out.os, B8.tape.trans HK3.out.tape, B8.output.trans HK3.out.output, Nat.le_trans HK3.out.size B8.size, fun k hk hkp => (B8.block k hk).trans (HK3.out.block k hk hkp)⟩
            clear R8 B8
            go_roundg xs2.length
            case measure => omega
            case rel => exact ⟨xs2, out ++ [q], Nat.le_refl _, by omega, by rw [List.length_append]; simp only [List.length_cons, List.length_nil]; omega, .inr hd2, HR8, HO8, HK8, Lib.hid (by have et := HT3.out; rw [if_neg HKQ.out, if_neg H64.out] at et; rw [et]; exact parseL_more _ _ _ _ (Nat.le_refl _) (by have := HM.out; omega))⟩
      · have tc : (c2 != 0) = true := by simp [hc2]
        have HC := Lib.hid hc2
        clear hc2
        go_wp2_with fail
        refine (code_calls HR3.out).mono ?_
        rintro e w4 ⟨rfl, rfl⟩
        go_wp2_with fail
        go_ret2
        have et := HT2.out
        rw [if_pos HC.out] at et
        subst et
        exact ⟨_, rfl, Kd.R_nil _ _ _ _ _, HK3.out.below HB1.out HB1.out.size hp⟩
end Go.Proofs.Ytmccghadgihbpaa.Parse

