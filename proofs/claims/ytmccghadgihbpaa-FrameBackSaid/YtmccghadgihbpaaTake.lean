/- head.Take: what it makes of any bytes, out of the reader's plain words. -/
import Derived.Test.YtmccghadgihbpaaReader
import Derived.Test.YtmccghadgihbpaaWZeros
import Derived.Deep.Cut
namespace Go.Proofs.Ytmccghadgihbpaa.Take
open Go Go.RowKit Go.Proofs.YtmccghadgihbpaaW.PrintWords Go.Proofs.YtmccghadgihbpaaW.PrintLast Go.Proofs.YtmccghadgihbpaaW.PrintMore Go.Proofs.Ytmccghadgihbpaa.Keep Go.Proofs.Ytmccghadgihbpaa.Mem Go.Proofs.Ytmccghadgihbpaa.Reader
set_option linter.unusedVariables false

/-! ### plain -/
structure TR where
  sp : Int
  dst : List Int
  src : List Int
  pos : Int
  fin : Int
  code : Int

def idR (c : Int) (x : List Int) : List Int × Int × List Int := rBytes (if (rByte c x).1 ≠ 8 then rFail 5 (rByte c x).2.1 else (rByte c x).2.1) (rByte c x).2.2 8
def verR : Nat → Int → List Int → Int
  | _, c, [] => c
  | i, c, v :: r => verR (i + 1) (if v ≠ ((i / 3 : Nat) : Int) then rFail 6 c else c) r

/-- A short head. -/
def takeS (b : List Int) : TR :=
  let q := rByte 0 b
  let c1 := if bits .and .u8 q.1 64 = 0 then rFail 5 q.2.1 else q.2.1
  let t := rBytes c1 q.2.2 8
  if t.2.1 ≠ 0 then ⟨0, [], [], 0, 0, t.2.1⟩ else ⟨2, t.1, [], 9, b.length, 0⟩

/-- A long head. -/
def takeL (b : List Int) : TR :=
  let q := rByte 0 b
  let sp := bits .and .u8 (q.1 / 32) 1
  let c1 := if bits .and .u8 q.1 80 ≠ 64 then rFail 5 q.2.1 else q.2.1
  let v := rBytes c1 q.2.2 4
  let c2 := verR 0 v.2.1 v.1
  let t := idR c2 v.2.2
  let f := idR t.2.1 t.2.2
  let z := if sp = 0 then (let y := rByte f.2.1 f.2.2; (if y.1 ≠ 0 then rFail 5 y.2.1 else y.2.1, y.2.2)) else (f.2.1, f.2.2)
  let n := rNum z.1 z.2
  let c5 := if n.2.1 = 0 ∧ n.1 > (n.2.2.length : Int) then rFail 3 n.2.1 else n.2.1
  if c5 ≠ 0 then ⟨0, [], [], 0, 0, c5⟩ else ⟨sp, t.1, f.1, (b.length : Int) - n.2.2.length, (b.length : Int) - n.2.2.length + n.1, 0⟩

def takeR (b : List Int) : TR := if bits .and .u8 (rByte 0 b).1 128 = 0 then takeS b else takeL b

theorem rByte_bd {c : Int} {x : List Int} (h : ∀ v ∈ x, 0 ≤ v ∧ v < 256) : 0 ≤ (rByte c x).1 ∧ (rByte c x).1 < 256 := by
  unfold rByte
  split
  · exact ⟨Int.le_refl 0, by show (0 : Int) < 256; decide⟩
  · cases x with
    | nil => exact ⟨Int.le_refl 0, by show (0 : Int) < 256; decide⟩
    | cons v r => exact h v (by simp)

theorem rByte_len (c : Int) (x : List Int) : (rByte c x).2.2.length ≤ x.length := by
  unfold rByte
  split
  · exact Nat.le_refl _
  · cases x with
    | nil => exact Nat.le_refl _
    | cons v r => show r.length ≤ (v :: r).length; simp

theorem rBytes_len (c : Int) (x : List Int) (n : Int) : (rBytes c x n).2.2.length ≤ x.length := by
  unfold rBytes
  split
  · exact Nat.le_refl _
  · split
    · exact Nat.le_refl _
    · show (x.drop _).length ≤ _; simp

theorem rBytes_take (c : Int) (x : List Int) (n : Int) : (rBytes c x n).1.length ≤ n.toNat := by
  unfold rBytes
  split
  · exact Nat.zero_le _
  · split
    · exact Nat.zero_le _
    · exact List.length_take_le _ _

theorem and1 {x : Int} (h0 : 0 ≤ x) (h1 : x < 8) : bits .and .u8 x 1 = 0 ∨ bits .and .u8 x 1 = 1 := by
  rcases (by omega : x = 0 ∨ x = 1 ∨ x = 2 ∨ x = 3 ∨ x = 4 ∨ x = 5 ∨ x = 6 ∨ x = 7) with rfl | rfl | rfl | rfl | rfl | rfl | rfl | rfl <;> decide +kernel

theorem rd_at {l : List Int} {k : Nat} (h : k < l.length) : rd l (k : Int) = l[k] := by unfold rd; simp [List.getD_eq_getElem?_getD, List.getElem?_eq_getElem h]

theorem rNum_len (c : Int) (x : List Int) : (rNum c x).2.2.length ≤ x.length := by
  cases x with
  | nil => exact Nat.le_refl _
  | cons v r => exact rBytes_len c (v :: r) _

theorem rNum_nn {c : Int} {x : List Int} (h : ∀ v ∈ x, 0 ≤ v ∧ v < 256) : 0 ≤ (rNum c x).1 := by
  cases x with
  | nil => exact Int.le_refl 0
  | cons v r =>
    show 0 ≤ numOf (rBytes c (v :: r) (2 ^ (v / 64).toNat)).1
    have hsub : ∀ u ∈ (rBytes c (v :: r) (2 ^ (v / 64).toNat)).1, 0 ≤ u ∧ u < 256 := by
      unfold rBytes
      split
      · intro u hu; cases hu
      · split
        · intro u hu; cases hu
        · intro u hu; exact h u (List.mem_of_mem_take hu)
    by_cases hn : (rBytes c (v :: r) (2 ^ (v / 64).toNat)).1 = []
    · rw [hn]; exact Int.le_refl 0
    · exact (numOf_bd _ hsub hn).1

theorem box3 {w : World} {b : Nat} {x y z : Value} {T : TypeId} (h : w.heap[b]? = some (.cells #[x, y, z] T (0, 0))) :
    w.cell? ⟨b, 0, none⟩ = some x ∧ w.cell? ⟨b, 1, none⟩ = some y ∧ w.cell? ⟨b, 2, none⟩ = some z ∧ w.frozen? ⟨b, 0, none⟩ = false ∧ w.frozen? ⟨b, 1, none⟩ = false ∧ w.frozen? ⟨b, 2, none⟩ = false :=
  ⟨blk_cell h 0, blk_cell h 1, blk_cell h 2, blk_frozen h 0, blk_frozen h 1, blk_frozen h 2⟩

theorem ends {W : World} {tmps : Array Value} {hb : Nat} {x y z a b c : Value} (h2 : tmps.getD 2 undef = .pointer (some ⟨hb, 0, none⟩)) (h3 : tmps.getD 3 undef = a) (h4 : tmps.getD 4 undef = b) (h5 : tmps.getD 5 undef = c)
    (hk : W.heap[hb]? = some (.cells #[x, y, z] 32 (0, 0))) : (results Try.f42 tmps).run Try.prog W = .ok (.tuple #[.agg #[x, y, z], a, b, c]) W := by
  obtain ⟨k0, k1, k2, f0, f1, f2⟩ := box3 hk
  have hr : Try.f42.results = #[.cell 2 32, .tmp 3, .tmp 4, .tmp 5] := by kernel_rfl
  unfold results
  rw [hr]
  have hu := Try.underlying32
  rw [Array.getD_eq_getD_getElem?] at h2 h3 h4 h5
  simp [go_sem, h2, h3, h4, h5, k0, k1, k2]

set_option maxHeartbeats 2000000 in
set_option maxRecDepth 100000 in
theorem take_calls {w : World} {A : Option Addr} {c : Nat} {b : List Int} (hC : CB w A b) (hc : b.length ≤ c) (hx : ∀ x ∈ b, 0 ≤ x ∧ x < 256) (hl : b.length ≤ 100000) :
    Calls Try.prog 42 #[.slice A b.length c] w fun e w' => ∃ v1 v2, e = .returned (.tuple #[.agg #[.int .i64 (takeR b).sp, v1, v2], .int .i64 (takeR b).pos, .int .i64 (takeR b).fin, .int .i64 (takeR b).code]) ∧ RB w' w.heap.size v1 (takeR b).dst ∧ RB w' w.heap.size v2 (takeR b).src ∧ Below w.heap.size w w' := by
  have hbd := rByte_bd (c := 0) hx
  have HX := Lib.hid hx
  have HC := Lib.hid hC
  have HL := Lib.hid hl
  obtain ⟨t, ht⟩ : ∃ t, takeR b = t := ⟨_, rfl⟩
  rw [ht]
  have HT := Lib.hid ht
  clear hx hC ht
  go_enter Try.func42, Try.ntmps42
  go_wp2_with fail
  have hblk := heap_alloc_new w (.cells #[.int .i64 0, .slice none 0 0, .slice none 0 0] 32)
  have B0 := (Below.refl w.heap.size w).alloc (Nat.le_refl _) (.cells #[.int .i64 0, .slice none 0 0, .slice none 0 0] 32)
  have hs0 : w.heap.size < (w.alloc (.cells #[.int .i64 0, .slice none 0 0, .slice none 0 0] 32)).heap.size := by simp
  obtain ⟨w0, hw0⟩ : ∃ w0 : World, w0 = w.alloc (.cells #[.int .i64 0, .slice none 0 0, .slice none 0 0] 32) := ⟨_, rfl⟩
  rw [← hw0] at hblk B0 hs0 ⊢
  clear hw0
  refine (new_calls (Kd.C_below HC.out B0) hc HX.out (by omega)).mono ?_
  rintro e w1 ⟨p, d, rfl, D1, B1, hp, hd⟩
  have hb1 := blk_below hblk B1
  have HB1 := Lib.hid (B0.trans (B1.mono (Nat.le_of_lt hs0)))
  have hs1 := B1.size
  have HD1 := Lib.hid D1
  have hpl : p < w1.heap.size := D1.1
  have HK1 := Lib.hid hb1
  have hpne : w.heap.size ≠ p := by omega
  have hdne : w.heap.size ≠ d := by omega
  have HPN := Lib.hid hpne
  have HDN := Lib.hid hdne
  clear hblk B0 B1 D1 hb1 hpne hdne
  go_wp2_with fail
  have BY := byte_calls HD1.out (by omega)
  have HBY := Lib.hid BY
  obtain ⟨q, hq⟩ : ∃ q, rByte 0 b = q := ⟨_, rfl⟩
  rw [hq] at HBY hbd
  have HQ := Lib.hid hq
  obtain ⟨q0, qc, qx⟩ := q
  obtain ⟨q00, q01⟩ := hbd
  clear BY hq HD1
  refine HBY.out.mono ?_
  clear HBY
  rintro e w2 ⟨rfl, D2, K2⟩
  have HD2 := Lib.hid D2
  have HK2 := Lib.hid (K2.blk HK1.out HPN.out)
  have HB2 := Lib.hid (K2.below HB1.out (by omega) (by omega))
  have hs2 := K2.size
  clear HK1 HB1 D2 K2
  by_cases h128 : bits .and .u8 q0 128 = 0
  · have HT8 := Lib.hid h128
    have hxl : qx.length ≤ b.length := by have := rByte_len 0 b; rw [HQ.out] at this; exact this
    go_upto_if 23 with fail
    go_cut [] from 14 (fun wx => Hid (Rdr wx p d (if bits .and .u8 q0 64 = 0 then rFail 5 qc else qc) qx) ∧ Hid (wx.heap[w.heap.size]? = some (.cells #[.int .i64 0, .slice none 0 0, .slice none 0 0] 32 (0, 0))) ∧ Hid (Below w.heap.size w wx) ∧ w2.heap.size ≤ wx.heap.size)
    case first =>
      by_cases h64 : bits .and .u8 q0 64 = 0
      · have HT6 := Lib.hid h64
        go_wp2_with fail
        refine (fail_calls HD2.out 5).mono ?_
        rintro e w3 ⟨rfl, D3, K3⟩
        go_wp2_with fail
        go_meet
        case rel => exact ⟨Lib.hid (by rw [if_pos HT6.out]; exact D3), Lib.hid (K3.blk HK2.out HPN.out), Lib.hid (K3.below HB2.out (by omega) (by omega)), K3.size⟩
      · have HT6 := Lib.hid h64
        go_wp2_with fail
        go_meet
        case rel => exact ⟨Lib.hid (by rw [if_neg HT6.out]; exact HD2.out), HK2, HB2, Nat.le_refl _⟩
    case rest =>
      clear HD2 HK2 HB2
      obtain ⟨HD3, HK3, HB3, hs3⟩ := hcut
      go_wp2_with fail
      obtain ⟨c1, hc1⟩ : ∃ c1, (if bits .and .u8 q0 64 = 0 then rFail 5 qc else qc) = c1 := ⟨_, rfl⟩
      rw [hc1] at HD3
      have HC1 := Lib.hid hc1
      refine (bytes_calls HD3.out 8 (by decide) (by omega)).mono ?_
      rintro e w4 ⟨v1, rfl, R4, D4, K4⟩
      have hk4 := K4.blk HK3.out HPN.out
      obtain ⟨k0, k1, k2, f0, f1, f2⟩ := box3 hk4
      have HB4 := Lib.hid (K4.below HB3.out (by omega) (by omega))
      obtain ⟨tt, htt⟩ : ∃ tt, rBytes c1 qx 8 = tt := ⟨_, rfl⟩
      rw [htt] at R4 D4
      obtain ⟨t0, tc, tx⟩ := tt
      have HTT := Lib.hid htt
      obtain ⟨A1, cc1, rfl, -, -, -⟩ := R4.read
      have HK4 := Lib.hid hk4
      have HD4 := Lib.hid D4
      have HR4 := Lib.hid R4
      have hs4 := K4.size
      clear hc1 htt hk4 R4 D4 K4 HK3 HD3 HB3
      go_wp2_with fail
      have hk5 : ((w4.setCell ⟨w.heap.size, 0, none⟩ (.int .i64 2)).setCell ⟨w.heap.size, 1, none⟩ (.slice A1 t0.length cc1)).heap[w.heap.size]? = some (.cells #[.int .i64 2, .slice A1 t0.length cc1, .slice none 0 0] 32 (0, 0)) := blk_set (blk_set HK4.out 0 (.int .i64 2)) 1 (.slice A1 t0.length cc1)
      have KK := ((Kp.refl w.heap.size w4).set 0 (.int .i64 2)).set 1 (.slice A1 t0.length cc1)
      obtain ⟨w5, hw5⟩ : ∃ w5 : World, w5 = (w4.setCell ⟨w.heap.size, 0, none⟩ (.int .i64 2)).setCell ⟨w.heap.size, 1, none⟩ (.slice A1 t0.length cc1) := ⟨_, rfl⟩
      rw [← hw5] at hk5 KK ⊢
      have hs5 := KK.size
      clear hw5 k0 k1 k2 f0 f1 f2
      refine (code_calls (HD4.out.keep KK (Ne.symm HPN.out) (Ne.symm HDN.out))).mono ?_
      rintro e w6 ⟨rfl, rfl⟩
      have HR5 := Lib.hid (KK.R HR4.out (by omega))
      have HB5 := Lib.hid (KK.below HB4.out (by omega) (Nat.le_refl _))
      have HD5 := Lib.hid (HD4.out.keep KK (Ne.symm HPN.out) (Ne.symm HDN.out))
      obtain ⟨k0, k1, k2, f0, f1, f2⟩ := box3 hk5
      have HK5 := Lib.hid hk5
      have et : takeR b = (if tc ≠ 0 then ⟨0, [], [], 0, 0, tc⟩ else ⟨2, t0, [], 9, b.length, 0⟩) := by
        unfold takeR takeS
        rw [HQ.out]
        simp only []
        rw [if_pos HT8.out, HC1.out, HTT.out]
      rw [HT.out] at et
      have HE := Lib.hid et
      clear KK HD4 HR4 HB4 HK4 hk5 et
      by_cases htc : tc = 0
      · have HTC := Lib.hid htc
        go_wp2_with fail
        (try simp only [Exit.inBlock, Exit.then])
        have hk6 := blk_set (blk_set (blk_set HK5.out 0 (.int .i64 2)) 1 (.slice A1 t0.length cc1)) 2 (.slice none 0 0)
        have KK := (((Kp.refl w.heap.size w5).set 0 (.int .i64 2)).set 1 (.slice A1 t0.length cc1)).set 2 (.slice none 0 0)
        refine bodyPost_ret (ends rfl rfl rfl rfl hk6) rfl ?_
        have et := HE.out
        rw [if_neg (by simp [htc])] at et
        subst et
        exact ⟨_, _, rfl, Kd.R_lower (KK.R HR5.out (by omega)) (by omega), Kd.R_nil _ _ _ _ _, KK.below HB5.out (by omega) (Nat.le_refl _)⟩
      · have HTC := Lib.hid htc
        go_wp2_with fail
        refine (code_calls HD5.out).mono ?_
        rintro e w6 ⟨rfl, rfl⟩
        go_wp2_with fail
        (try simp only [Exit.inBlock, Exit.then])
        have hk6 := blk_set (blk_set (blk_set HK5.out 0 (.int .i64 0)) 1 (.slice none 0 0)) 2 (.slice none 0 0)
        have KK := (((Kp.refl w.heap.size w5).set 0 (.int .i64 0)).set 1 (.slice none 0 0)).set 2 (.slice none 0 0)
        refine bodyPost_ret (ends rfl rfl rfl rfl hk6) rfl ?_
        have et := HE.out
        rw [if_pos htc] at et
        subst et
        exact ⟨_, _, rfl, Kd.R_nil _ _ _ _ _, Kd.R_nil _ _ _ _ _, KK.below HB5.out (by omega) (Nat.le_refl _)⟩
  · have HT8 := Lib.hid h128
    have hxl : qx.length ≤ b.length := by have := rByte_len 0 b; rw [HQ.out] at this; exact this
    obtain ⟨k0, k1, k2, f0, f1, f2⟩ := box3 HK2.out
    have hsp : ∃ sp : Int, bits .and .u8 (q0 / 32) 1 = sp ∧ (sp = 0 ∨ sp = 1) := ⟨_, rfl, and1 (by omega) (by omega)⟩
    obtain ⟨sp, hsp, hsp2⟩ := hsp
    have hspw : wrap64 sp = sp := by unfold wrap64; omega
    have HSP := Lib.hid hsp
    go_upto_if 46 with fail
    have hkc : (w2.setCell ⟨w.heap.size, 0, none⟩ (.int .i64 sp)).heap[w.heap.size]? = some (.cells #[.int .i64 sp, .slice none 0 0, .slice none 0 0] 32 (0, 0)) := blk_set HK2.out 0 (.int .i64 sp)
    have KK := (Kp.refl w.heap.size w2).set 0 (.int .i64 sp)
    obtain ⟨w5, hw5⟩ : ∃ w5 : World, w5 = w2.setCell ⟨w.heap.size, 0, none⟩ (.int .i64 sp) := ⟨_, rfl⟩
    rw [← hw5] at hkc KK ⊢
    have hs5 := KK.size
    have HKC := Lib.hid hkc
    have HD5 := Lib.hid (HD2.out.keep KK (Ne.symm HPN.out) (Ne.symm HDN.out))
    have HB5 := Lib.hid (KK.below HB2.out (by omega) (Nat.le_refl _))
    clear hw5 k0 k1 k2 f0 f1 f2 hkc KK HD2 HB2 HK2 hspw hsp
    go_cut [] from 14 (fun wx => Hid (Rdr wx p d (if bits .and .u8 q0 80 ≠ 64 then rFail 5 qc else qc) qx) ∧ Hid (wx.heap[w.heap.size]? = some (.cells #[.int .i64 sp, .slice none 0 0, .slice none 0 0] 32 (0, 0))) ∧ Hid (Below w.heap.size w wx) ∧ w5.heap.size ≤ wx.heap.size)
    case first =>
      by_cases h64 : bits .and .u8 q0 80 = 64
      · have HT6 := Lib.hid h64
        go_wp2_with fail
        go_meet
        case rel => exact ⟨Lib.hid (by rw [if_neg (by simp [HT6.out])]; exact HD5.out), HKC, HB5, Nat.le_refl _⟩
      · have HT6 := Lib.hid h64
        go_wp2_with fail
        refine (fail_calls HD5.out 5).mono ?_
        rintro e w3 ⟨rfl, D3, K3⟩
        go_wp2_with fail
        go_meet
        case rel => exact ⟨Lib.hid (by rw [if_pos HT6.out]; exact D3), Lib.hid (K3.blk HKC.out HPN.out), Lib.hid (K3.below HB5.out (by omega) (by omega)), K3.size⟩
    case rest =>
      clear HD5 HKC HB5
      obtain ⟨HD3, HK3, HB3, hs3⟩ := hcut
      go_wp2_with fail
      obtain ⟨c1, hc1⟩ : ∃ c1, (if bits .and .u8 q0 80 ≠ 64 then rFail 5 qc else qc) = c1 := ⟨_, rfl⟩
      rw [hc1] at HD3
      have HC1 := Lib.hid hc1
      refine (bytes_calls HD3.out 4 (by decide) (by omega)).mono ?_
      rintro e w4 ⟨v1, rfl, R4, D4, K4⟩
      have hvl := rBytes_take c1 qx 4
      have hvx := rBytes_len c1 qx 4
      obtain ⟨vv, hvv⟩ : ∃ vv, rBytes c1 qx 4 = vv := ⟨_, rfl⟩
      rw [hvv] at R4 D4 hvl hvx
      obtain ⟨ver, vc, vx⟩ := vv
      have HVV := Lib.hid hvv
      obtain ⟨A8, c8, rfl, -, -, -⟩ := R4.read
      have hvl4 : ver.length ≤ 4 := hvl
      have hvx4 : vx.length ≤ qx.length := hvx
      have HK4 := Lib.hid (K4.blk HK3.out HPN.out)
      have HB4 := Lib.hid (K4.below HB3.out (by omega) (by omega))
      have HD4 := Lib.hid D4
      have HR4 := Lib.hid R4
      have hs4 := K4.size
      clear hc1 hvv R4 D4 K4 HK3 HD3 HB3 hvl hvx
      go_wp2_with fail
      go_loopw [53] (fun i wr => ∃ (j : Nat) (cj : Int), j ≤ ver.length ∧ i = .int .i64 j ∧ verR j cj (ver.drop j) = verR 0 vc ver ∧ Hid (Rdr wr p d cj vx) ∧ Hid (RB wr wc.heap.size (.slice A8 ver.length c8) ver) ∧ Hid (wr.heap[w.heap.size]? = some (.cells #[.int .i64 sp, .slice none 0 0, .slice none 0 0] 32 (0, 0))) ∧ Hid (Below w.heap.size w wr) ∧ w4.heap.size ≤ wr.heap.size) (fun i _ => ver.length - (intOf i).toNat)
      case atStart => exact ⟨0, vc, Nat.zero_le _, rfl, rfl, HD4, HR4, HK4, HB4, Nat.le_refl _⟩
      case round =>
        clear HD4 HR4 HK4 HB4
        obtain ⟨j, cj, hj, rfl, hvr, HD5, HR5, HK5, HB5, hs6⟩ := hrel
        by_cases hlt : j < ver.length
        · obtain ⟨A', c', e', -, hC', -⟩ := HR5.out.read
          have hAA : A8 = A' := by injection e'
          subst hAA
          obtain ⟨ad, rfl, hcell⟩ := Kd.at_int hC' (j : Int) (Int.natCast_nonneg _) (by omega)
          rw [rd_at hlt, Int.toNat_natCast] at hcell
          have hdr : ver.drop j = ver[j] :: ver.drop (j + 1) := List.drop_eq_getElem_cons hlt
          rw [hdr] at hvr
          generalize ver[j] = v at *
          have hj3 : Int.tdiv (j : Int) 3 = ((j / 3 : Nat) : Int) := by rw [Int.tdiv_eq_ediv_of_nonneg (Int.natCast_nonneg _)]; rfl
          have hj4 : j / 3 ≤ 1 := by omega
          have HVR := Lib.hid hvr
          clear hvr hdr
          by_cases hv : v = ((j / 3 : Nat) : Int)
          · have HV := Lib.hid hv
            go_wp2_with fail
            go_roundw
            case rel => exact ⟨j + 1, cj, by omega, by go_num, by have h := HVR.out; rw [verR, if_neg (by simp [HV.out])] at h; exact h, HD5, HR5, HK5, HB5, hs6⟩
            case measure => simp [intOf]; omega
          · have HV := Lib.hid hv
            go_wp2_with fail
            refine (fail_calls HD5.out 6).mono ?_
            rintro e w7 ⟨rfl, D7, K7⟩
            have HD7 := Lib.hid D7
            have HR7 := Lib.hid (K7.R HR5.out (by omega))
            have HK7 := Lib.hid (K7.blk HK5.out HPN.out)
            have HB7 := Lib.hid (K7.below HB5.out (by omega) (by omega))
            have hs7 := K7.size
            clear D7 K7 HD5 HR5 HK5 HB5
            go_wp2_with fail
            go_roundw
            case rel => exact ⟨j + 1, rFail 6 cj, by omega, by go_num, by have h := HVR.out; rw [verR, if_pos HV.out] at h; exact h, HD7, HR7, HK7, HB7, by omega⟩
            case measure => simp [intOf]; omega
        · have hje : j = ver.length := by omega
          subst hje
          have hcj : cj = verR 0 vc ver := by rw [← hvr, List.drop_eq_nil_of_le (Nat.le_refl _)]; rfl
          subst hcj
          clear hvr hlt hj
          --IDS
          go_wp2_with fail
          have hkn := heap_alloc_new wr (.cells #[.pointer (some ⟨w.heap.size, 1, none⟩), .pointer (some ⟨w.heap.size, 2, none⟩)] 86)
          have BN := (Below.refl wr.heap.size wr).alloc (Nat.le_refl _) (.cells #[.pointer (some ⟨w.heap.size, 1, none⟩), .pointer (some ⟨w.heap.size, 2, none⟩)] 86)
          have hsn : wr.heap.size < (wr.alloc (.cells #[.pointer (some ⟨w.heap.size, 1, none⟩), .pointer (some ⟨w.heap.size, 2, none⟩)] 86)).heap.size := by simp
          obtain ⟨wa, hwa⟩ : ∃ wa : World, wa = wr.alloc (.cells #[.pointer (some ⟨w.heap.size, 1, none⟩), .pointer (some ⟨w.heap.size, 2, none⟩)] 86) := ⟨_, rfl⟩
          rw [← hwa] at hkn BN hsn ⊢
          have hkp : wr.heap.size ≠ p := by omega
          have hkh : wr.heap.size ≠ w.heap.size := by omega
          have HKP := Lib.hid hkp
          have HKH := Lib.hid hkh
          have HDA := Lib.hid (HD5.out.below BN)
          have HKA := Lib.hid (blk_below HK5.out BN)
          have HBA := Lib.hid (HB5.out.trans (BN.mono (by omega)))
          have HPA := Lib.hid hkn
          generalize hkb : wr.heap.size = kb at *
          obtain ⟨c2, hc2⟩ : ∃ c2, verR 0 vc ver = c2 := ⟨_, rfl⟩
          rw [hc2] at HDA
          have HC2 := Lib.hid hc2
          clear hwa hkn BN hkp hkh HD5 HK5 HB5 HR5 hkb hc2
          go_loopw [70] (fun i wr => ∃ (A1 A2 : Option Addr) (n1 n2 : Nat) (l1 l2 : List Int) (cj : Int) (xj : List Int), Hid (wr.heap[w.heap.size]? = some (.cells #[.int .i64 sp, .slice A1 l1.length n1, .slice A2 l2.length n2] 32 (0, 0))) ∧ Hid (RB wr wa.heap.size (.slice A1 l1.length n1) l1) ∧ Hid (RB wr wa.heap.size (.slice A2 l2.length n2) l2) ∧ Hid (Rdr wr p d cj xj) ∧ Hid (wr.heap[kb]? = some (.cells #[.pointer (some ⟨w.heap.size, 1, none⟩), .pointer (some ⟨w.heap.size, 2, none⟩)] 86 (0, 0))) ∧ Hid (Below w.heap.size w wr) ∧ wa.heap.size ≤ wr.heap.size ∧ xj.length ≤ vx.length ∧
            ((i = .int .i64 0 ∧ l1 = [] ∧ l2 = [] ∧ cj = c2 ∧ xj = vx) ∨ (i = .int .i64 1 ∧ l2 = [] ∧ Hid (idR c2 vx = (l1, cj, xj))) ∨ (i = .int .i64 2 ∧ Hid (idR (idR c2 vx).2.1 (idR c2 vx).2.2 = (l2, cj, xj)) ∧ Hid ((idR c2 vx).1 = l1)))) (fun i _ => 2 - (intOf i).toNat)
          case atStart => exact ⟨none, none, 0, 0, [], [], c2, vx, HKA, Lib.hid (Kd.R_nil _ _ _ _ _), Lib.hid (Kd.R_nil _ _ _ _ _), HDA, HPA, HBA, Nat.le_refl _, Nat.le_refl _, .inl ⟨rfl, rfl, rfl, rfl, rfl⟩⟩
          case round =>
            clear HKA HDA HPA HBA
            obtain ⟨A1, A2, n1, n2, l1, l2, cj, xj, HK, HR1, HR2, HD, HP, HB, hsz, hxj, hst⟩ := hrel
            obtain ⟨z0, z1⟩ : wr.cell? ⟨kb, 0, none⟩ = _ ∧ wr.cell? ⟨kb, 1, none⟩ = _ := ⟨blk_cell HP.out 0, blk_cell HP.out 1⟩
            have hiR : idR cj xj = rBytes (if (rByte cj xj).1 ≠ 8 then rFail 5 (rByte cj xj).2.1 else (rByte cj xj).2.1) (rByte cj xj).2.2 8 := rfl
            have hyl := rByte_len cj xj
            have BY := byte_calls HD.out (by omega)
            obtain ⟨y, hy⟩ : ∃ y, rByte cj xj = y := ⟨_, rfl⟩
            rw [hy] at BY hiR hyl
            obtain ⟨y0, yc, yx⟩ := y
            have hyx : yx.length ≤ xj.length := hyl
            have HBY := Lib.hid BY
            have HIR := Lib.hid hiR
            clear BY hy hiR hyl
            rcases hst with hst | hst | hst
            · obtain ⟨rfl, rfl, rfl, rfl, rfl⟩ := hst
              go_wp2_with fail
              refine HBY.out.mono ?_
              clear HBY
              rintro e w7 ⟨rfl, D7, K7⟩
              have HD7 := Lib.hid D7
              have HK7 := Lib.hid (K7.blk HK.out HPN.out)
              have HP7 := Lib.hid (K7.blk HP.out HKP.out)
              have HR17 := Lib.hid (K7.R HR1.out (by omega))
              have HR27 := Lib.hid (K7.R HR2.out (by omega))
              have HB7 := Lib.hid (K7.below HB.out (by omega) (by omega))
              have hs7 := K7.size
              clear D7 K7 HD HK HP HR1 HR2 HB z0 z1
              by_cases hy8 : y0 = 8
              · have HY8 := Lib.hid hy8
                have hid1 := HIR.out
                rw [if_neg (by simp [hy8])] at hid1
                have HID := Lib.hid hid1
                clear hid1
                go_wp2_with fail
                have hiL : ∀ cc, (rBytes cc yx 8).2.2.length ≤ yx.length := fun cc => rBytes_len cc yx 8
                refine (bytes_calls HD7.out 8 (by decide) (by omega)).mono ?_
                rintro e w9 ⟨v9, rfl, R9, D9, K9⟩
                obtain ⟨ii, hii⟩ : ∃ ii, idR cj xj = ii := ⟨_, rfl⟩
                have HID2 := HID.out
                rw [hii] at HID2
                have hiL2 := hiL (yc)
                rw [← HID2] at R9 D9 hiL2
                obtain ⟨i0, ic, ix⟩ := ii
                obtain ⟨A9, n9, rfl, -, -, -⟩ := R9.read
                have hix : ix.length ≤ yx.length := hiL2
                have HII := Lib.hid hii
                have hk9 := K9.blk HK7.out HPN.out
                obtain ⟨k0, k1, k2, f0, f1, f2⟩ := box3 hk9
                have HK9 := Lib.hid hk9
                have HP9 := Lib.hid (K9.blk HP7.out HKP.out)
                have HR19 := Lib.hid (K9.R HR17.out (by omega))
                have HR29 := Lib.hid (K9.R HR27.out (by omega))
                have HB9 := Lib.hid (K9.below HB7.out (by omega) (by omega))
                have hs9 := Nat.le_trans hs7 K9.size
                have HD9 := Lib.hid D9
                have HRN := Lib.hid (Kd.R_lower R9 (show wa.heap.size ≤ _ by omega))
                clear R9 D9 K9 hii HID2 hk9 HD7 HK7 HP7 HR17 HR27 HB7
                go_wp2_with fail
                have KK := (Kp.refl w.heap.size w9).set 1 (.slice A9 i0.length n9)
                have hkz := blk_set HK9.out 1 (.slice A9 i0.length n9)
                have hpz := KK.blk HP9.out HKH.out
                have HKZ := Lib.hid hkz
                have HPZ := Lib.hid hpz
                have HDZ := Lib.hid (HD9.out.keep KK (Ne.symm HPN.out) (Ne.symm HDN.out))
                have HRZN := Lib.hid (KK.R HRN.out (by omega))
                have HRZ1 := Lib.hid (KK.R HR19.out (by omega))
                have HRZ2 := Lib.hid (KK.R HR29.out (by omega))
                have HBZ := Lib.hid (KK.below HB9.out (by omega) (Nat.le_refl _))
                have hsz2 := Nat.le_trans hsz (Nat.le_trans hs9 KK.size)
                clear KK hkz hpz k0 k1 k2 f0 f1 f2
                go_roundw
                case rel => exact ⟨A9, A2, n9, n2, i0, [], ic, ix, HKZ, HRZN, HRZ2, HDZ, HPZ, HBZ, hsz2, by omega, .inr (.inl ⟨rfl, rfl, HII⟩)⟩
                case measure => simp [intOf]
              · have HY8 := Lib.hid hy8
                have hid1 := HIR.out
                rw [if_pos hy8] at hid1
                have HID := Lib.hid hid1
                clear hid1
                go_wp2_with fail
                refine (fail_calls HD7.out 5).mono ?_
                rintro e w8 ⟨rfl, D8, K8⟩
                have HD8 := Lib.hid D8
                have HK8 := Lib.hid (K8.blk HK7.out HPN.out)
                have HP8 := Lib.hid (K8.blk HP7.out HKP.out)
                have HR18 := Lib.hid (K8.R HR17.out (by omega))
                have HR28 := Lib.hid (K8.R HR27.out (by omega))
                have HB8 := Lib.hid (K8.below HB7.out (by omega) (by omega))
                have hs8 := Nat.le_trans hs7 K8.size
                clear D8 K8 HD7 HK7 HP7 HR17 HR27 HB7
                go_wp2_with fail
                have hiL : ∀ cc, (rBytes cc yx 8).2.2.length ≤ yx.length := fun cc => rBytes_len cc yx 8
                refine (bytes_calls HD8.out 8 (by decide) (by omega)).mono ?_
                rintro e w9 ⟨v9, rfl, R9, D9, K9⟩
                obtain ⟨ii, hii⟩ : ∃ ii, idR cj xj = ii := ⟨_, rfl⟩
                have HID2 := HID.out
                rw [hii] at HID2
                have hiL2 := hiL (rFail 5 yc)
                rw [← HID2] at R9 D9 hiL2
                obtain ⟨i0, ic, ix⟩ := ii
                obtain ⟨A9, n9, rfl, -, -, -⟩ := R9.read
                have hix : ix.length ≤ yx.length := hiL2
                have HII := Lib.hid hii
                have hk9 := K9.blk HK8.out HPN.out
                obtain ⟨k0, k1, k2, f0, f1, f2⟩ := box3 hk9
                have HK9 := Lib.hid hk9
                have HP9 := Lib.hid (K9.blk HP8.out HKP.out)
                have HR19 := Lib.hid (K9.R HR18.out (by omega))
                have HR29 := Lib.hid (K9.R HR28.out (by omega))
                have HB9 := Lib.hid (K9.below HB8.out (by omega) (by omega))
                have hs9 := Nat.le_trans hs8 K9.size
                have HD9 := Lib.hid D9
                have HRN := Lib.hid (Kd.R_lower R9 (show wa.heap.size ≤ _ by omega))
                clear R9 D9 K9 hii HID2 hk9 HD8 HK8 HP8 HR18 HR28 HB8
                go_wp2_with fail
                have KK := (Kp.refl w.heap.size w9).set 1 (.slice A9 i0.length n9)
                have hkz := blk_set HK9.out 1 (.slice A9 i0.length n9)
                have hpz := KK.blk HP9.out HKH.out
                have HKZ := Lib.hid hkz
                have HPZ := Lib.hid hpz
                have HDZ := Lib.hid (HD9.out.keep KK (Ne.symm HPN.out) (Ne.symm HDN.out))
                have HRZN := Lib.hid (KK.R HRN.out (by omega))
                have HRZ1 := Lib.hid (KK.R HR19.out (by omega))
                have HRZ2 := Lib.hid (KK.R HR29.out (by omega))
                have HBZ := Lib.hid (KK.below HB9.out (by omega) (Nat.le_refl _))
                have hsz2 := Nat.le_trans hsz (Nat.le_trans hs9 KK.size)
                clear KK hkz hpz k0 k1 k2 f0 f1 f2
                go_roundw
                case rel => exact ⟨A9, A2, n9, n2, i0, [], ic, ix, HKZ, HRZN, HRZ2, HDZ, HPZ, HBZ, hsz2, by omega, .inr (.inl ⟨rfl, rfl, HII⟩)⟩
                case measure => simp [intOf]
            · obtain ⟨rfl, rfl, HI⟩ := hst
              go_wp2_with fail
              refine HBY.out.mono ?_
              clear HBY
              rintro e w7 ⟨rfl, D7, K7⟩
              have HD7 := Lib.hid D7
              have HK7 := Lib.hid (K7.blk HK.out HPN.out)
              have HP7 := Lib.hid (K7.blk HP.out HKP.out)
              have HR17 := Lib.hid (K7.R HR1.out (by omega))
              have HR27 := Lib.hid (K7.R HR2.out (by omega))
              have HB7 := Lib.hid (K7.below HB.out (by omega) (by omega))
              have hs7 := K7.size
              clear D7 K7 HD HK HP HR1 HR2 HB z0 z1
              by_cases hy8 : y0 = 8
              · have HY8 := Lib.hid hy8
                have hid1 := HIR.out
                rw [if_neg (by simp [hy8])] at hid1
                have HID := Lib.hid hid1
                clear hid1
                go_wp2_with fail
                have hiL : ∀ cc, (rBytes cc yx 8).2.2.length ≤ yx.length := fun cc => rBytes_len cc yx 8
                refine (bytes_calls HD7.out 8 (by decide) (by omega)).mono ?_
                rintro e w9 ⟨v9, rfl, R9, D9, K9⟩
                obtain ⟨ii, hii⟩ : ∃ ii, idR cj xj = ii := ⟨_, rfl⟩
                have HID2 := HID.out
                rw [hii] at HID2
                have hiL2 := hiL (yc)
                rw [← HID2] at R9 D9 hiL2
                obtain ⟨i0, ic, ix⟩ := ii
                obtain ⟨A9, n9, rfl, -, -, -⟩ := R9.read
                have hix : ix.length ≤ yx.length := hiL2
                have HII := Lib.hid hii
                have hk9 := K9.blk HK7.out HPN.out
                obtain ⟨k0, k1, k2, f0, f1, f2⟩ := box3 hk9
                have HK9 := Lib.hid hk9
                have HP9 := Lib.hid (K9.blk HP7.out HKP.out)
                have HR19 := Lib.hid (K9.R HR17.out (by omega))
                have HR29 := Lib.hid (K9.R HR27.out (by omega))
                have HB9 := Lib.hid (K9.below HB7.out (by omega) (by omega))
                have hs9 := Nat.le_trans hs7 K9.size
                have HD9 := Lib.hid D9
                have HRN := Lib.hid (Kd.R_lower R9 (show wa.heap.size ≤ _ by omega))
                clear R9 D9 K9 hii HID2 hk9 HD7 HK7 HP7 HR17 HR27 HB7
                go_wp2_with fail
                have KK := (Kp.refl w.heap.size w9).set 2 (.slice A9 i0.length n9)
                have hkz := blk_set HK9.out 2 (.slice A9 i0.length n9)
                have hpz := KK.blk HP9.out HKH.out
                have HKZ := Lib.hid hkz
                have HPZ := Lib.hid hpz
                have HDZ := Lib.hid (HD9.out.keep KK (Ne.symm HPN.out) (Ne.symm HDN.out))
                have HRZN := Lib.hid (KK.R HRN.out (by omega))
                have HRZ1 := Lib.hid (KK.R HR19.out (by omega))
                have HRZ2 := Lib.hid (KK.R HR29.out (by omega))
                have HBZ := Lib.hid (KK.below HB9.out (by omega) (Nat.le_refl _))
                have hsz2 := Nat.le_trans hsz (Nat.le_trans hs9 KK.size)
                clear KK hkz hpz k0 k1 k2 f0 f1 f2
                go_roundw
                case rel => exact ⟨A1, A9, n1, n9, l1, i0, ic, ix, HKZ, HRZ1, HRZN, HDZ, HPZ, HBZ, hsz2, by omega, .inr (.inr ⟨rfl, Lib.hid (by rw [HI.out]; exact HII.out), Lib.hid (by rw [HI.out])⟩)⟩
                case measure => simp [intOf]
              · have HY8 := Lib.hid hy8
                have hid1 := HIR.out
                rw [if_pos hy8] at hid1
                have HID := Lib.hid hid1
                clear hid1
                go_wp2_with fail
                refine (fail_calls HD7.out 5).mono ?_
                rintro e w8 ⟨rfl, D8, K8⟩
                have HD8 := Lib.hid D8
                have HK8 := Lib.hid (K8.blk HK7.out HPN.out)
                have HP8 := Lib.hid (K8.blk HP7.out HKP.out)
                have HR18 := Lib.hid (K8.R HR17.out (by omega))
                have HR28 := Lib.hid (K8.R HR27.out (by omega))
                have HB8 := Lib.hid (K8.below HB7.out (by omega) (by omega))
                have hs8 := Nat.le_trans hs7 K8.size
                clear D8 K8 HD7 HK7 HP7 HR17 HR27 HB7
                go_wp2_with fail
                have hiL : ∀ cc, (rBytes cc yx 8).2.2.length ≤ yx.length := fun cc => rBytes_len cc yx 8
                refine (bytes_calls HD8.out 8 (by decide) (by omega)).mono ?_
                rintro e w9 ⟨v9, rfl, R9, D9, K9⟩
                obtain ⟨ii, hii⟩ : ∃ ii, idR cj xj = ii := ⟨_, rfl⟩
                have HID2 := HID.out
                rw [hii] at HID2
                have hiL2 := hiL (rFail 5 yc)
                rw [← HID2] at R9 D9 hiL2
                obtain ⟨i0, ic, ix⟩ := ii
                obtain ⟨A9, n9, rfl, -, -, -⟩ := R9.read
                have hix : ix.length ≤ yx.length := hiL2
                have HII := Lib.hid hii
                have hk9 := K9.blk HK8.out HPN.out
                obtain ⟨k0, k1, k2, f0, f1, f2⟩ := box3 hk9
                have HK9 := Lib.hid hk9
                have HP9 := Lib.hid (K9.blk HP8.out HKP.out)
                have HR19 := Lib.hid (K9.R HR18.out (by omega))
                have HR29 := Lib.hid (K9.R HR28.out (by omega))
                have HB9 := Lib.hid (K9.below HB8.out (by omega) (by omega))
                have hs9 := Nat.le_trans hs8 K9.size
                have HD9 := Lib.hid D9
                have HRN := Lib.hid (Kd.R_lower R9 (show wa.heap.size ≤ _ by omega))
                clear R9 D9 K9 hii HID2 hk9 HD8 HK8 HP8 HR18 HR28 HB8
                go_wp2_with fail
                have KK := (Kp.refl w.heap.size w9).set 2 (.slice A9 i0.length n9)
                have hkz := blk_set HK9.out 2 (.slice A9 i0.length n9)
                have hpz := KK.blk HP9.out HKH.out
                have HKZ := Lib.hid hkz
                have HPZ := Lib.hid hpz
                have HDZ := Lib.hid (HD9.out.keep KK (Ne.symm HPN.out) (Ne.symm HDN.out))
                have HRZN := Lib.hid (KK.R HRN.out (by omega))
                have HRZ1 := Lib.hid (KK.R HR19.out (by omega))
                have HRZ2 := Lib.hid (KK.R HR29.out (by omega))
                have HBZ := Lib.hid (KK.below HB9.out (by omega) (Nat.le_refl _))
                have hsz2 := Nat.le_trans hsz (Nat.le_trans hs9 KK.size)
                clear KK hkz hpz k0 k1 k2 f0 f1 f2
                go_roundw
                case rel => exact ⟨A1, A9, n1, n9, l1, i0, ic, ix, HKZ, HRZ1, HRZN, HDZ, HPZ, HBZ, hsz2, by omega, .inr (.inr ⟨rfl, Lib.hid (by rw [HI.out]; exact HII.out), Lib.hid (by rw [HI.out])⟩)⟩
                case measure => simp [intOf]
            · obtain ⟨rfl, HI2, HI1⟩ := hst
              clear HIR HBY z0 z1
              obtain ⟨k0, k1, k2, f0, f1, f2⟩ := box3 HK.out
              have hq : takeR b = takeL b := by unfold takeR; rw [HQ.out, if_neg HT8.out]
              rw [HT.out] at hq
              have hyn := rByte_len cj xj
              have et0 : ∀ zc zx n0 nc nx, (if sp = 0 then (let y := rByte cj xj; (if y.1 ≠ 0 then rFail 5 y.2.1 else y.2.1, y.2.2)) else (cj, xj)) = (zc, zx) → rNum zc zx = (n0, nc, nx) →
                  t = (if (if nc = 0 ∧ n0 > (nx.length : Int) then rFail 3 nc else nc) ≠ 0 then ⟨0, [], [], 0, 0, (if nc = 0 ∧ n0 > (nx.length : Int) then rFail 3 nc else nc)⟩ else ⟨sp, l1, l2, (b.length : Int) - nx.length, (b.length : Int) - nx.length + n0, 0⟩) := by
                intro zc zx n0 nc nx h1 h2
                rw [hq]
                unfold takeL
                simp only [HQ.out, HSP.out, HC1.out, HVV.out, HC2.out, HI2.out, HI1.out]
                simp only [h1, h2]
              have HET := Lib.hid et0
              have HYN := Lib.hid hyn
              clear hq et0 hyn
              rcases hsp2 with rfl | rfl
              · have BY := byte_calls HD.out (by omega)
                obtain ⟨y, hy⟩ : ∃ y, rByte cj xj = y := ⟨_, rfl⟩
                have HYL := HYN.out
                rw [hy] at BY HYL
                obtain ⟨y0', yc', yx'⟩ := y
                have hyx' : yx'.length ≤ xj.length := HYL
                have HBY := Lib.hid BY
                have HY := Lib.hid hy
                clear BY hy HYL HYN
                go_wp2_with fail
                refine HBY.out.mono ?_
                clear HBY
                rintro e w7 ⟨rfl, D7, K7⟩
                have HD7 := Lib.hid D7
                have HK7 := Lib.hid (K7.blk HK.out HPN.out)
                have HR17 := Lib.hid (K7.R HR1.out (by omega))
                have HR27 := Lib.hid (K7.R HR2.out (by omega))
                have HB7 := Lib.hid (K7.below HB.out (by omega) (by omega))
                have hs7 := Nat.le_trans hsz K7.size
                clear D7 K7 HD HK HP HR1 HR2 HB k0 k1 k2 f0 f1 f2
                by_cases hy0 : y0' = 0
                · have HY0 := Lib.hid hy0
                  go_wp2_with fail
                  have hnl := rNum_len (yc') yx'
                  have hnn := rNum_nn (c := yc') HD7.out.2.1
                  have NM := num_calls HD7.out (by omega)
                  obtain ⟨nn, hnm⟩ : ∃ nn, rNum (yc') yx' = nn := ⟨_, rfl⟩
                  rw [hnm] at hnl hnn NM
                  obtain ⟨n0, nc, nx⟩ := nn
                  have et := HET.out (yc') yx' n0 nc nx (by simp [HY.out, HY0.out]) hnm
                  have hnx : nx.length ≤ yx'.length := hnl
                  have hn0 : 0 ≤ n0 := hnn
                  have HE := Lib.hid et
                  have HNM := Lib.hid NM
                  clear et hnl hnn NM HET
                  refine HNM.out.mono ?_
                  clear HNM
                  rintro e w9 ⟨rfl, D9, K9⟩
                  have HD9 := Lib.hid D9
                  have HK9 := Lib.hid (K9.blk HK7.out HPN.out)
                  have HR19 := Lib.hid (K9.R HR17.out (by omega))
                  have HR29 := Lib.hid (K9.R HR27.out (by omega))
                  have HB9 := Lib.hid (K9.below HB7.out (by omega) (by omega))
                  have hs9 := Nat.le_trans hs7 K9.size
                  clear D9 K9 HD7 HK7 HR17 HR27 HB7
                  try clear k0 k1 k2 f0 f1 f2
                  have hwl : IntKind.u64.wrap (nx.length : Int) = nx.length := by rw [IntKind.wrap_u64]; omega
                  have hgc := code_calls HD9.out
                  have hgl := left_calls HD9.out
                  have HGC := Lib.hid hgc
                  have HGL := Lib.hid hgl
                  clear hgc hgl
                  go_wp2_with fail
                  refine HGC.out.mono ?_
                  rintro e w10 ⟨rfl, rfl⟩
                  by_cases hnc : nc = 0
                  · have HNC := Lib.hid hnc
                    by_cases hgt : n0 > (nx.length : Int)
                    · have HGT := Lib.hid hgt
                      go_wp2_with fail
                      refine HGL.out.mono ?_
                      rintro e w10 ⟨rfl, rfl⟩
                      go_wp2_with fail
                      refine (fail_calls HD9.out 3).mono ?_
                      rintro e w10 ⟨rfl, D10, K10⟩
                      rw [show rFail 3 nc = 3 by unfold rFail; rw [if_pos HNC.out]] at D10
                      have HD10 := Lib.hid D10
                      have hk10 := K10.blk HK9.out HPN.out
                      have HB10 := Lib.hid (K10.below HB9.out (by omega) (by omega))
                      have hs10 := K10.size
                      obtain ⟨k0, k1, k2, f0, f1, f2⟩ := box3 hk10
                      have HK10 := Lib.hid hk10
                      clear D10 K10 hk10
                      go_wp2_with fail
                      refine (code_calls HD10.out).mono ?_
                      rintro e w11 ⟨rfl, rfl⟩
                      go_wp2_with fail
                      refine (code_calls HD10.out).mono ?_
                      rintro e w11 ⟨rfl, rfl⟩
                      go_wp2_with fail
                      (try simp only [Exit.inBlock, Exit.then])
                      have hk6 := blk_set (blk_set (blk_set HK10.out 0 (.int .i64 0)) 1 (.slice none 0 0)) 2 (.slice none 0 0)
                      have KK := (((Kp.refl w.heap.size w10).set 0 (.int .i64 0)).set 1 (.slice none 0 0)).set 2 (.slice none 0 0)
                      refine bodyPost_ret (ends rfl rfl rfl rfl hk6) rfl ?_
                      have et := HE.out
                      rw [if_pos (⟨HNC.out, HGT.out⟩ : nc = 0 ∧ n0 > (nx.length : Int)), show rFail 3 nc = 3 by unfold rFail; rw [if_pos HNC.out], if_pos (by decide)] at et
                      subst et
                      exact ⟨_, _, rfl, Kd.R_nil _ _ _ _ _, Kd.R_nil _ _ _ _ _, KK.below HB10.out (by omega) (Nat.le_refl _)⟩
                    · have HGT := Lib.hid hgt
                      have hle : n0 ≤ (nx.length : Int) := by omega
                      obtain ⟨k0, k1, k2, f0, f1, f2⟩ := box3 HK9.out
                      have hw0 : IntKind.i64.wrap n0 = n0 := by rw [IntKind.wrap_i64]; omega
                      have hw0' : wrap64 n0 = n0 := by unfold wrap64; omega
                      have hw1 : wrap64 ((b.length : Int) - nx.length) = (b.length : Int) - nx.length := by unfold wrap64; omega
                      have hw2 : wrap64 ((b.length : Int) - nx.length + n0) = (b.length : Int) - nx.length + n0 := by unfold wrap64; omega
                      go_wp2_with fail
                      refine HGL.out.mono ?_
                      rintro e w10 ⟨rfl, rfl⟩
                      go_wp2_with fail
                      refine HGC.out.mono ?_
                      rintro e w10 ⟨rfl, rfl⟩
                      go_wp2_with fail
                      refine HGL.out.mono ?_
                      rintro e w10 ⟨rfl, rfl⟩
                      go_wp2_with fail
                      (try simp only [Exit.inBlock, Exit.then])
                      have hk6 := blk_set (blk_set (blk_set HK9.out 0 (.int .i64 0)) 1 (.slice A1 l1.length n1)) 2 (.slice A2 l2.length n2)
                      have KK := (((Kp.refl w.heap.size w9).set 0 (.int .i64 0)).set 1 (.slice A1 l1.length n1)).set 2 (.slice A2 l2.length n2)
                      refine bodyPost_ret (ends rfl rfl rfl rfl hk6) rfl ?_
                      have et := HE.out
                      rw [if_neg (fun h : nc = 0 ∧ n0 > (nx.length : Int) => absurd h.2 (by have := HGT.out; omega)), if_neg (by simp [HNC.out])] at et
                      subst et
                      exact ⟨_, _, rfl, Kd.R_lower (KK.R HR19.out (by omega)) (by omega), Kd.R_lower (KK.R HR29.out (by omega)) (by omega), KK.below HB9.out (by omega) (Nat.le_refl _)⟩
                  · have HNC := Lib.hid hnc
                    obtain ⟨k0, k1, k2, f0, f1, f2⟩ := box3 HK9.out
                    go_wp2_with fail
                    refine HGC.out.mono ?_
                    rintro e w10 ⟨rfl, rfl⟩
                    go_wp2_with fail
                    refine HGC.out.mono ?_
                    rintro e w10 ⟨rfl, rfl⟩
                    go_wp2_with fail
                    (try simp only [Exit.inBlock, Exit.then])
                    have hk6 := blk_set (blk_set (blk_set HK9.out 0 (.int .i64 0)) 1 (.slice none 0 0)) 2 (.slice none 0 0)
                    have KK := (((Kp.refl w.heap.size w9).set 0 (.int .i64 0)).set 1 (.slice none 0 0)).set 2 (.slice none 0 0)
                    refine bodyPost_ret (ends rfl rfl rfl rfl hk6) rfl ?_
                    have et := HE.out
                    rw [if_neg (fun h : nc = 0 ∧ n0 > (nx.length : Int) => HNC.out h.1), if_pos HNC.out] at et
                    subst et
                    exact ⟨_, _, rfl, Kd.R_nil _ _ _ _ _, Kd.R_nil _ _ _ _ _, KK.below HB9.out (by omega) (Nat.le_refl _)⟩
                · have HY0 := Lib.hid hy0
                  go_wp2_with fail
                  refine (fail_calls HD7.out 5).mono ?_
                  rintro e w8 ⟨rfl, D8, K8⟩
                  have HD8 := Lib.hid D8
                  have HK8 := Lib.hid (K8.blk HK7.out HPN.out)
                  have HR18 := Lib.hid (K8.R HR17.out (by omega))
                  have HR28 := Lib.hid (K8.R HR27.out (by omega))
                  have HB8 := Lib.hid (K8.below HB7.out (by omega) (by omega))
                  have hs8 := Nat.le_trans hs7 K8.size
                  clear D8 K8 HD7 HK7 HR17 HR27 HB7
                  go_wp2_with fail
                  have hnl := rNum_len (rFail 5 yc') yx'
                  have hnn := rNum_nn (c := rFail 5 yc') HD8.out.2.1
                  have NM := num_calls HD8.out (by omega)
                  obtain ⟨nn, hnm⟩ : ∃ nn, rNum (rFail 5 yc') yx' = nn := ⟨_, rfl⟩
                  rw [hnm] at hnl hnn NM
                  obtain ⟨n0, nc, nx⟩ := nn
                  have et := HET.out (rFail 5 yc') yx' n0 nc nx (by simp [HY.out, HY0.out]) hnm
                  have hnx : nx.length ≤ yx'.length := hnl
                  have hn0 : 0 ≤ n0 := hnn
                  have HE := Lib.hid et
                  have HNM := Lib.hid NM
                  clear et hnl hnn NM HET
                  refine HNM.out.mono ?_
                  clear HNM
                  rintro e w9 ⟨rfl, D9, K9⟩
                  have HD9 := Lib.hid D9
                  have HK9 := Lib.hid (K9.blk HK8.out HPN.out)
                  have HR19 := Lib.hid (K9.R HR18.out (by omega))
                  have HR29 := Lib.hid (K9.R HR28.out (by omega))
                  have HB9 := Lib.hid (K9.below HB8.out (by omega) (by omega))
                  have hs9 := Nat.le_trans hs8 K9.size
                  clear D9 K9 HD8 HK8 HR18 HR28 HB8
                  try clear k0 k1 k2 f0 f1 f2
                  have hwl : IntKind.u64.wrap (nx.length : Int) = nx.length := by rw [IntKind.wrap_u64]; omega
                  have hgc := code_calls HD9.out
                  have hgl := left_calls HD9.out
                  have HGC := Lib.hid hgc
                  have HGL := Lib.hid hgl
                  clear hgc hgl
                  go_wp2_with fail
                  refine HGC.out.mono ?_
                  rintro e w10 ⟨rfl, rfl⟩
                  by_cases hnc : nc = 0
                  · have HNC := Lib.hid hnc
                    by_cases hgt : n0 > (nx.length : Int)
                    · have HGT := Lib.hid hgt
                      go_wp2_with fail
                      refine HGL.out.mono ?_
                      rintro e w10 ⟨rfl, rfl⟩
                      go_wp2_with fail
                      refine (fail_calls HD9.out 3).mono ?_
                      rintro e w10 ⟨rfl, D10, K10⟩
                      rw [show rFail 3 nc = 3 by unfold rFail; rw [if_pos HNC.out]] at D10
                      have HD10 := Lib.hid D10
                      have hk10 := K10.blk HK9.out HPN.out
                      have HB10 := Lib.hid (K10.below HB9.out (by omega) (by omega))
                      have hs10 := K10.size
                      obtain ⟨k0, k1, k2, f0, f1, f2⟩ := box3 hk10
                      have HK10 := Lib.hid hk10
                      clear D10 K10 hk10
                      go_wp2_with fail
                      refine (code_calls HD10.out).mono ?_
                      rintro e w11 ⟨rfl, rfl⟩
                      go_wp2_with fail
                      refine (code_calls HD10.out).mono ?_
                      rintro e w11 ⟨rfl, rfl⟩
                      go_wp2_with fail
                      (try simp only [Exit.inBlock, Exit.then])
                      have hk6 := blk_set (blk_set (blk_set HK10.out 0 (.int .i64 0)) 1 (.slice none 0 0)) 2 (.slice none 0 0)
                      have KK := (((Kp.refl w.heap.size w10).set 0 (.int .i64 0)).set 1 (.slice none 0 0)).set 2 (.slice none 0 0)
                      refine bodyPost_ret (ends rfl rfl rfl rfl hk6) rfl ?_
                      have et := HE.out
                      rw [if_pos (⟨HNC.out, HGT.out⟩ : nc = 0 ∧ n0 > (nx.length : Int)), show rFail 3 nc = 3 by unfold rFail; rw [if_pos HNC.out], if_pos (by decide)] at et
                      subst et
                      exact ⟨_, _, rfl, Kd.R_nil _ _ _ _ _, Kd.R_nil _ _ _ _ _, KK.below HB10.out (by omega) (Nat.le_refl _)⟩
                    · have HGT := Lib.hid hgt
                      have hle : n0 ≤ (nx.length : Int) := by omega
                      obtain ⟨k0, k1, k2, f0, f1, f2⟩ := box3 HK9.out
                      have hw0 : IntKind.i64.wrap n0 = n0 := by rw [IntKind.wrap_i64]; omega
                      have hw0' : wrap64 n0 = n0 := by unfold wrap64; omega
                      have hw1 : wrap64 ((b.length : Int) - nx.length) = (b.length : Int) - nx.length := by unfold wrap64; omega
                      have hw2 : wrap64 ((b.length : Int) - nx.length + n0) = (b.length : Int) - nx.length + n0 := by unfold wrap64; omega
                      go_wp2_with fail
                      refine HGL.out.mono ?_
                      rintro e w10 ⟨rfl, rfl⟩
                      go_wp2_with fail
                      refine HGC.out.mono ?_
                      rintro e w10 ⟨rfl, rfl⟩
                      go_wp2_with fail
                      refine HGL.out.mono ?_
                      rintro e w10 ⟨rfl, rfl⟩
                      go_wp2_with fail
                      (try simp only [Exit.inBlock, Exit.then])
                      have hk6 := blk_set (blk_set (blk_set HK9.out 0 (.int .i64 0)) 1 (.slice A1 l1.length n1)) 2 (.slice A2 l2.length n2)
                      have KK := (((Kp.refl w.heap.size w9).set 0 (.int .i64 0)).set 1 (.slice A1 l1.length n1)).set 2 (.slice A2 l2.length n2)
                      refine bodyPost_ret (ends rfl rfl rfl rfl hk6) rfl ?_
                      have et := HE.out
                      rw [if_neg (fun h : nc = 0 ∧ n0 > (nx.length : Int) => absurd h.2 (by have := HGT.out; omega)), if_neg (by simp [HNC.out])] at et
                      subst et
                      exact ⟨_, _, rfl, Kd.R_lower (KK.R HR19.out (by omega)) (by omega), Kd.R_lower (KK.R HR29.out (by omega)) (by omega), KK.below HB9.out (by omega) (Nat.le_refl _)⟩
                  · have HNC := Lib.hid hnc
                    obtain ⟨k0, k1, k2, f0, f1, f2⟩ := box3 HK9.out
                    go_wp2_with fail
                    refine HGC.out.mono ?_
                    rintro e w10 ⟨rfl, rfl⟩
                    go_wp2_with fail
                    refine HGC.out.mono ?_
                    rintro e w10 ⟨rfl, rfl⟩
                    go_wp2_with fail
                    (try simp only [Exit.inBlock, Exit.then])
                    have hk6 := blk_set (blk_set (blk_set HK9.out 0 (.int .i64 0)) 1 (.slice none 0 0)) 2 (.slice none 0 0)
                    have KK := (((Kp.refl w.heap.size w9).set 0 (.int .i64 0)).set 1 (.slice none 0 0)).set 2 (.slice none 0 0)
                    refine bodyPost_ret (ends rfl rfl rfl rfl hk6) rfl ?_
                    have et := HE.out
                    rw [if_neg (fun h : nc = 0 ∧ n0 > (nx.length : Int) => HNC.out h.1), if_pos HNC.out] at et
                    subst et
                    exact ⟨_, _, rfl, Kd.R_nil _ _ _ _ _, Kd.R_nil _ _ _ _ _, KK.below HB9.out (by omega) (Nat.le_refl _)⟩
              · clear HYN
                go_wp2_with fail
                have hnl := rNum_len (cj) xj
                have hnn := rNum_nn (c := cj) HD.out.2.1
                have NM := num_calls HD.out (by omega)
                obtain ⟨nn, hnm⟩ : ∃ nn, rNum (cj) xj = nn := ⟨_, rfl⟩
                rw [hnm] at hnl hnn NM
                obtain ⟨n0, nc, nx⟩ := nn
                have et := HET.out (cj) xj n0 nc nx (by rw [if_neg (by decide)]) hnm
                have hnx : nx.length ≤ xj.length := hnl
                have hn0 : 0 ≤ n0 := hnn
                have HE := Lib.hid et
                have HNM := Lib.hid NM
                clear et hnl hnn NM HET
                refine HNM.out.mono ?_
                clear HNM
                rintro e w9 ⟨rfl, D9, K9⟩
                have HD9 := Lib.hid D9
                have HK9 := Lib.hid (K9.blk HK.out HPN.out)
                have HR19 := Lib.hid (K9.R HR1.out (by omega))
                have HR29 := Lib.hid (K9.R HR2.out (by omega))
                have HB9 := Lib.hid (K9.below HB.out (by omega) (by omega))
                have hs9 := Nat.le_trans hsz K9.size
                clear D9 K9 HD HK HR1 HR2 HB
                try clear k0 k1 k2 f0 f1 f2
                have hwl : IntKind.u64.wrap (nx.length : Int) = nx.length := by rw [IntKind.wrap_u64]; omega
                have hgc := code_calls HD9.out
                have hgl := left_calls HD9.out
                have HGC := Lib.hid hgc
                have HGL := Lib.hid hgl
                clear hgc hgl
                go_wp2_with fail
                refine HGC.out.mono ?_
                rintro e w10 ⟨rfl, rfl⟩
                by_cases hnc : nc = 0
                · have HNC := Lib.hid hnc
                  by_cases hgt : n0 > (nx.length : Int)
                  · have HGT := Lib.hid hgt
                    go_wp2_with fail
                    refine HGL.out.mono ?_
                    rintro e w10 ⟨rfl, rfl⟩
                    go_wp2_with fail
                    refine (fail_calls HD9.out 3).mono ?_
                    rintro e w10 ⟨rfl, D10, K10⟩
                    rw [show rFail 3 nc = 3 by unfold rFail; rw [if_pos HNC.out]] at D10
                    have HD10 := Lib.hid D10
                    have hk10 := K10.blk HK9.out HPN.out
                    have HB10 := Lib.hid (K10.below HB9.out (by omega) (by omega))
                    have hs10 := K10.size
                    obtain ⟨k0, k1, k2, f0, f1, f2⟩ := box3 hk10
                    have HK10 := Lib.hid hk10
                    clear D10 K10 hk10
                    go_wp2_with fail
                    refine (code_calls HD10.out).mono ?_
                    rintro e w11 ⟨rfl, rfl⟩
                    go_wp2_with fail
                    refine (code_calls HD10.out).mono ?_
                    rintro e w11 ⟨rfl, rfl⟩
                    go_wp2_with fail
                    (try simp only [Exit.inBlock, Exit.then])
                    have hk6 := blk_set (blk_set (blk_set HK10.out 0 (.int .i64 0)) 1 (.slice none 0 0)) 2 (.slice none 0 0)
                    have KK := (((Kp.refl w.heap.size w10).set 0 (.int .i64 0)).set 1 (.slice none 0 0)).set 2 (.slice none 0 0)
                    refine bodyPost_ret (ends rfl rfl rfl rfl hk6) rfl ?_
                    have et := HE.out
                    rw [if_pos (⟨HNC.out, HGT.out⟩ : nc = 0 ∧ n0 > (nx.length : Int)), show rFail 3 nc = 3 by unfold rFail; rw [if_pos HNC.out], if_pos (by decide)] at et
                    subst et
                    exact ⟨_, _, rfl, Kd.R_nil _ _ _ _ _, Kd.R_nil _ _ _ _ _, KK.below HB10.out (by omega) (Nat.le_refl _)⟩
                  · have HGT := Lib.hid hgt
                    have hle : n0 ≤ (nx.length : Int) := by omega
                    obtain ⟨k0, k1, k2, f0, f1, f2⟩ := box3 HK9.out
                    have hw0 : IntKind.i64.wrap n0 = n0 := by rw [IntKind.wrap_i64]; omega
                    have hw0' : wrap64 n0 = n0 := by unfold wrap64; omega
                    have hw1 : wrap64 ((b.length : Int) - nx.length) = (b.length : Int) - nx.length := by unfold wrap64; omega
                    have hw2 : wrap64 ((b.length : Int) - nx.length + n0) = (b.length : Int) - nx.length + n0 := by unfold wrap64; omega
                    go_wp2_with fail
                    refine HGL.out.mono ?_
                    rintro e w10 ⟨rfl, rfl⟩
                    go_wp2_with fail
                    refine HGC.out.mono ?_
                    rintro e w10 ⟨rfl, rfl⟩
                    go_wp2_with fail
                    refine HGL.out.mono ?_
                    rintro e w10 ⟨rfl, rfl⟩
                    go_wp2_with fail
                    (try simp only [Exit.inBlock, Exit.then])
                    have hk6 := blk_set (blk_set (blk_set HK9.out 0 (.int .i64 1)) 1 (.slice A1 l1.length n1)) 2 (.slice A2 l2.length n2)
                    have KK := (((Kp.refl w.heap.size w9).set 0 (.int .i64 1)).set 1 (.slice A1 l1.length n1)).set 2 (.slice A2 l2.length n2)
                    refine bodyPost_ret (ends rfl rfl rfl rfl hk6) rfl ?_
                    have et := HE.out
                    rw [if_neg (fun h : nc = 0 ∧ n0 > (nx.length : Int) => absurd h.2 (by have := HGT.out; omega)), if_neg (by simp [HNC.out])] at et
                    subst et
                    exact ⟨_, _, rfl, Kd.R_lower (KK.R HR19.out (by omega)) (by omega), Kd.R_lower (KK.R HR29.out (by omega)) (by omega), KK.below HB9.out (by omega) (Nat.le_refl _)⟩
                · have HNC := Lib.hid hnc
                  obtain ⟨k0, k1, k2, f0, f1, f2⟩ := box3 HK9.out
                  go_wp2_with fail
                  refine HGC.out.mono ?_
                  rintro e w10 ⟨rfl, rfl⟩
                  go_wp2_with fail
                  refine HGC.out.mono ?_
                  rintro e w10 ⟨rfl, rfl⟩
                  go_wp2_with fail
                  (try simp only [Exit.inBlock, Exit.then])
                  have hk6 := blk_set (blk_set (blk_set HK9.out 0 (.int .i64 0)) 1 (.slice none 0 0)) 2 (.slice none 0 0)
                  have KK := (((Kp.refl w.heap.size w9).set 0 (.int .i64 0)).set 1 (.slice none 0 0)).set 2 (.slice none 0 0)
                  refine bodyPost_ret (ends rfl rfl rfl rfl hk6) rfl ?_
                  have et := HE.out
                  rw [if_neg (fun h : nc = 0 ∧ n0 > (nx.length : Int) => HNC.out h.1), if_pos HNC.out] at et
                  subst et
                  exact ⟨_, _, rfl, Kd.R_nil _ _ _ _ _, Kd.R_nil _ _ _ _ _, KK.below HB9.out (by omega) (Nat.le_refl _)⟩
end Go.Proofs.Ytmccghadgihbpaa.Take
