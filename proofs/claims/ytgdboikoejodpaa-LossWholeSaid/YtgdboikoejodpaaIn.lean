/- Which packets are in the spans: the two closures, and what searches by them. -/
import Derived.Test.YtgdboikoejodpaaDrop
namespace Go.Proofs.Ytgdboikoejodpaa.In
open Go Go.RowKit Go.Proofs.YtgdboikoejodpaaW.PrintWords Go.Proofs.YtgdboikoejodpaaW.PrintLast Go.Proofs.YtgdboikoejodpaaW.PrintMore Go.Proofs.Ytgdboikoejodpaa.Keep Go.Proofs.Ytgdboikoejodpaa.Led Go.Proofs.Ytgdboikoejodpaa.Rate Go.Proofs.Ytgdboikoejodpaa.Rd Go.Proofs.Ytgdboikoejodpaa.Timer Go.Proofs.Ytgdboikoejodpaa.LedSp Go.Proofs.Ytgdboikoejodpaa.Drop
set_option linter.unusedVariables false

structure Q where
  lo : Int
  hi : Int
def zQ : Q := ⟨0, 0⟩
def kQ : Kd Q where
  sz := 2
  E := []
  K := fun _ x cs => cs = [.int .u64 x.lo, .int .u64 x.hi]
  M := fun _ _ _ x cs => cs = [.int .u64 x.lo, .int .u64 x.hi]
  K_len := by rintro w x cs rfl; rfl
  K_one := by
    rintro w x cs rfl u hu
    simp only [List.mem_cons, List.not_mem_nil, or_false] at hu
    rcases hu with rfl | rfl <;> rfl
  K_below := fun _ h => h
  K_of_M := fun h => h
  M_mono := fun _ h => h
  M_bound := fun h => h
  M_move := fun _ h => h
  M_lower := fun _ h => h
def rdQ (xs : List Q) (i : Int) : Q := xs.getD i.toNat zQ
theorem at_Q {w : World} {A : Option Addr} {n : Nat} {xs : List Q} (h : Kd.C kQ w A n xs) (k : Nat) (hk : k < n) : ∃ ad, A = some ad ∧ w.cell? (ad.add (k * 2)) = some (.int .u64 (rdQ xs k).lo) ∧ w.cell? ⟨(ad.add (k * 2)).block, (ad.add (k * 2)).off + 1, none⟩ = some (.int .u64 (rdQ xs k).hi) := by
  obtain ⟨ad, c, e, _, hK, hc0⟩ := Kd.C_get h zQ (k : Int) (by omega) (by omega)
  have hc : ∀ j u, c[j]? = some u → w.cell? (ad.add (k * 2 + j)) = some u := hc0
  have hK : c = [.int .u64 (rdQ xs k).lo, .int .u64 (rdQ xs k).hi] := hK
  subst hK
  exact ⟨ad, e, hc 0 _ rfl, by rw [← add_field _ _ 1 (by omega)]; exact hc 1 _ rfl⟩
theorem rdQ_in {l : List Q} {i : Nat} (h : i < l.length) : rdQ l (i : Int) = l[i] := by
  unfold rdQ
  simp [List.getD_eq_getElem?_getD, List.getElem?_eq_getElem h]

def inQ (n : Int) (x : Q) : Bool := decide (x.lo ≤ n) && decide (n ≤ x.hi)
/-- The index of the first span that has it. -/
def idxQ (n : Int) : List Q → Nat → Int
  | [], _ => -1
  | x :: l, k => if inQ n x then (k : Int) else idxQ n l (k + 1)
theorem idxQ_any (n : Int) (l : List Q) (k : Nat) : decide (0 ≤ idxQ n l k) = l.any (inQ n) := by
  induction l generalizing k with
  | nil => rfl
  | cons x l ih =>
    unfold idxQ
    by_cases h : inQ n x
    · simp [h]
    · simp [h, ih]

theorem inner_calls {w : World} (b : Nat) (n : Int) (x : Q) (hb : w.cell? ⟨b, 0, none⟩ = some (.int .u64 n)) (hbl : b < w.heap.size) :
    Calls Try.prog 35 #[.agg #[.int .u64 x.lo, .int .u64 x.hi], .pointer (some ⟨b, 0, none⟩)] w fun e w' => e = .returned (.bool (inQ n x)) ∧ Below w.heap.size w w' := by
  have hb1 : (w.alloc (.cells #[.int .u64 x.lo, .int .u64 x.hi] 35)).cell? ⟨b, 0, none⟩ = some (.int .u64 n) := by rw [World.cell?_alloc_past _ _ _ hbl]; exact hb
  have hk := heap_alloc_new w (.cells #[.int .u64 x.lo, .int .u64 x.hi] 35)
  have j0 := blk_cell hk 0
  have j1 := blk_cell hk 1
  have B := (Below.refl w.heap.size w).alloc (Nat.le_refl _) (.cells #[.int .u64 x.lo, .int .u64 x.hi] 35)
  have HB := Lib.hid B
  clear B hk
  by_cases h1 : x.lo ≤ n
  · by_cases h2 : n ≤ x.hi
    · have e : inQ n x = true := by simp [inQ, h1, h2]
      have HE := Lib.hid e
      clear e
      go_enter Try.func35, Try.ntmps35
      go_wp2_with fail
      all_goals go_ret
      all_goals exact ⟨by rw [HE.out]; rfl, HB.out⟩
    · have e : inQ n x = false := by simp [inQ, h1, h2]
      have HE := Lib.hid e
      clear e
      go_enter Try.func35, Try.ntmps35
      go_wp2_with fail
      all_goals go_ret
      all_goals exact ⟨by rw [HE.out]; rfl, HB.out⟩
  · have e : inQ n x = false := by simp [inQ, h1]
    have HE := Lib.hid e
    clear e
    go_enter Try.func35, Try.ntmps35
    go_wp2_with fail
    all_goals go_ret
    all_goals exact ⟨by rw [HE.out]; rfl, HB.out⟩
abbrev sO (x : S) : Obj := .cells #[.int .u64 x.pn, .int .u64 x.time, .int .u64 x.size, .bool x.asks, .slice x.fa x.fn x.fc] 30 (0, 0)
set_option maxHeartbeats 1000000 in
theorem index_calls {w : World} (b : Nat) (x : S) (A : Option Addr) (c : Nat) (l : List Q) (hC : Kd.C kQ w A l.length l) (hb : w.heap[b]? = some (sO x)) (hl : l.length ≤ 1000000) :
    Calls Try.prog 44 #[.slice A l.length c, .func (.func 35) #[] #[.pointer (some ⟨b, 0, none⟩)]] w fun e w' => e = .returned (.int .i64 (idxQ x.pn l 0)) ∧ Below w.heap.size w w' := by
  have HC := Lib.hid hC
  have HBB := Lib.hid hb
  clear hC hb
  go_enter Try.func44, Try.ntmps44
  go_wp2_with fail
  go_loopw [8] (fun i wr => ∃ k : Nat, k ≤ l.length ∧ i = .int .i64 (k : Int) ∧ Hid (idxQ x.pn l 0 = idxQ x.pn (l.drop k) k) ∧ Hid (Below w.heap.size w wr)) (fun i _ => l.length - (intOf i).toNat)
  case atStart => exact ⟨0, by omega, rfl, Lib.hid rfl, Lib.hid (Below.refl _ _)⟩
  case round =>
    obtain ⟨k, hk, rfl, HX, HB⟩ := hrel
    by_cases hkl : k < l.length
    · have hCr := Kd.C_below HC.out HB.out
      obtain ⟨A', eA, j0, j1⟩ := at_Q hCr k hkl
      subst eA
      have hbr := blk_below HBB.out HB.out
      have ed : l.drop k = rdQ l (k : Int) :: l.drop (k + 1) := by rw [rdQ_in hkl]; exact List.drop_eq_getElem_cons hkl
      have IN := inner_calls b x.pn (rdQ l (k : Int)) (blk_cell hbr 0) (blk_lt hbr)
      have HIN := Lib.hid IN
      have HED := Lib.hid ed
      clear hCr hbr ed IN
      go_wp2_with fail
      refine HIN.out.mono ?_
      rintro e w2 ⟨rfl, B2⟩
      have HB2 := Lib.hid (HB.out.trans (B2.mono HB.out.size))
      clear B2
      cases hin : inQ x.pn (rdQ l (k : Int)) with
      | true =>
        have e : idxQ x.pn l 0 = (k : Int) := by rw [HX.out, HED.out]; unfold idxQ; rw [hin]; rfl
        clear j0 j1
        go_wp2_with fail
        go_ret
        exact ⟨by rw [← e]; rfl, HB2.out⟩
      | false =>
        have e : idxQ x.pn l 0 = idxQ x.pn (l.drop (k + 1)) (k + 1) := by rw [HX.out, HED.out]; rw [idxQ, hin]; rfl
        have HE := Lib.hid e
        clear j0 j1 e
        go_wp2_with fail
        go_roundw
        case rel => exact ⟨k + 1, by omega, by simp, HE, HB2⟩
        case measure => simp [intOf]; omega
    · have e : idxQ x.pn l 0 = -1 := by rw [HX.out, List.drop_of_length_le (by omega)]; rfl
      have HE := Lib.hid e
      clear e
      go_wp2_with fail
      go_ret
      exact ⟨by rw [HE.out]; rfl, HB.out⟩
theorem contains_calls {w : World} (b : Nat) (x : S) (A : Option Addr) (c : Nat) (l : List Q) (hC : Kd.C kQ w A l.length l) (hb : w.heap[b]? = some (sO x)) (hl : l.length ≤ 1000000) :
    Calls Try.prog 34 #[.slice A l.length c, .func (.func 35) #[] #[.pointer (some ⟨b, 0, none⟩)]] w fun e w' => e = .returned (.bool (l.any (inQ x.pn))) ∧ Below w.heap.size w w' := by
  have IX := index_calls b x A c l hC hb hl
  have e := idxQ_any x.pn l 0
  obtain ⟨t, ht⟩ : ∃ t, idxQ x.pn l 0 = t := ⟨_, rfl⟩
  rw [ht] at IX e
  rw [← e]
  have HI := Lib.hid IX
  clear IX e ht hC hb
  go_enter Try.func34, Try.ntmps34
  go_wp2_with fail
  refine HI.out.mono ?_
  rintro e w2 ⟨rfl, B2⟩
  go_wp2_with fail
  go_ret
  exact ⟨rfl, B2⟩
/-- Is the packet in the spans that lie in the box g? -/
theorem so_calls {w : World} (g : Nat) (x : S) (A : Option Addr) (c : Nat) (l : List Q) (hC : Kd.C kQ w A l.length l) (hg : w.cell? ⟨g, 0, none⟩ = some (.slice A l.length c)) (hgl : g < w.heap.size) (hl : l.length ≤ 1000000) :
    Calls Try.prog 33 #[argS x, .pointer (some ⟨g, 0, none⟩)] w fun e w' => e = .returned (.bool (l.any (inQ x.pn))) ∧ Below w.heap.size w w' := by
  have hmf : ∀ (fn : Fn) (first cap : Array Value) (w : World), (Instr.makeFunc fn first cap).run Try.prog w = .ok (.func fn first cap) w := fun _ _ _ _ => rfl
  have hg1 : (w.alloc (.cells #[.int .u64 x.pn, .int .u64 x.time, .int .u64 x.size, .bool x.asks, .slice x.fa x.fn x.fc] 30)).cell? ⟨g, 0, none⟩ = some (.slice A l.length c) := by rw [World.cell?_alloc_past _ _ _ hgl]; exact hg
  have B := (Below.refl w.heap.size w).alloc (Nat.le_refl _) (.cells #[.int .u64 x.pn, .int .u64 x.time, .int .u64 x.size, .bool x.asks, .slice x.fa x.fn x.fc] 30)
  have CO := contains_calls w.heap.size x A c l (Kd.C_below hC B) (sent_cells (w := w) x 30) hl
  have HB := Lib.hid B
  have HC := Lib.hid CO
  clear B CO hC hg
  go_enter Try.func33, Try.ntmps33
  go_wp2_with fail
  refine HC.out.mono ?_
  rintro e w2 ⟨rfl, B2⟩
  go_wp2_with fail
  go_ret
  exact ⟨rfl, HB.out.trans (B2.mono HB.out.size)⟩
end Go.Proofs.Ytgdboikoejodpaa.In
