/- split: those of a list that are in the spans, and the others. -/
import Derived.Test.YtgdboikoejodpaaIn
namespace Go.Proofs.Ytgdboikoejodpaa.Split
open Go Go.RowKit Go.Proofs.YtgdboikoejodpaaW.PrintWords Go.Proofs.YtgdboikoejodpaaW.PrintLast Go.Proofs.YtgdboikoejodpaaW.PrintMore Go.Proofs.Ytgdboikoejodpaa.Keep Go.Proofs.Ytgdboikoejodpaa.Led Go.Proofs.Ytgdboikoejodpaa.Rate Go.Proofs.Ytgdboikoejodpaa.Rd Go.Proofs.Ytgdboikoejodpaa.Timer Go.Proofs.Ytgdboikoejodpaa.LedSp Go.Proofs.Ytgdboikoejodpaa.Drop Go.Proofs.Ytgdboikoejodpaa.In
set_option linter.unusedVariables false

theorem infoS : (Try.prog.info? 30).map (fun i => (i.zero, i.size, i.bytes)) = some (some (.agg #[.int .u64 0, .int .u64 0, .int .u64 0, .bool false, .slice none 0 0]), 5, 56) := by kernel_rfl

/-- 'append(l, p)', packets: one, laid into a block of its own just ahead. -/
theorem appS {ops : Array Oper} {rest : List Oper} {o : Oper} {a : Act} {Q : Exit → Act → World → Prop} {W w0 : World} (base : Nat) (hgd : o.guard = none) (s x : Operand) (ho : o.op = .call { callee := .builtin .append, args := #[s, x], argTypes := #[31, 31] })
    {v : Value} {xs : List S} {q : S} (HO : RS W base v xs) (hs : a.eval s = v) (hx : a.eval x = .slice (some ⟨W.heap.size, 0, none⟩) 1 1) (hB : Below base w0 W) (hbase : base ≤ W.heap.size)
    (hl : xs.length + 1 ≤ 1000000)
    (h : ∀ v1 w1, RS w1 base v1 (xs ++ [q]) → Below base w0 w1 → W.grownBy w1 v.ownBlock → (v1.ownBlock = v.ownBlock ∨ ∃ b, v1.ownBlock = some b ∧ W.heap.size ≤ b) → wpList Try.prog ops Q rest (a.put o.dst v1) w1) : wpList Try.prog ops Q (o :: rest) a (W.alloc (.cells #[.int .u64 q.pn, .int .u64 q.time, .int .u64 q.size, .bool q.asks, .slice q.fa q.fn q.fc] 30)) :=
  Kd.R_append kS (w0 := w0) base hgd s x 31 30 (.agg #[.int .u64 0, .int .u64 0, .int .u64 0, .bool false, .slice none 0 0]) 56 ho Try.underlying31 infoS rfl (by decide) (by decide) v xs q [.int .u64 q.pn, .int .u64 q.time, .int .u64 q.size, .bool q.asks, .slice q.fa q.fn q.fc] (fun _ => True) (fun _ => False) hs hx rfl (fun _ hk => hk.elim) (fun _ _ => trivial) HO hB hbase (by omega) h

theorem cell_below {w w' : World} {a : Addr} {v : Value} (h : w.cell? a = some v) (hl : a.block < w.heap.size) (hb : Below w.heap.size w w') : w'.cell? a = some v := by
  unfold World.cell? at h ⊢
  rw [hb.block a.block hl]
  exact h
theorem RS_grown {w w' : World} {base : Nat} {v : Value} {l : List S} {o : Option Nat} (h : RS w base v l) (g : w.grownBy w' o) (hn : ∀ b, v.ownBlock = some b → o ≠ some b) : RS w' base v l :=
  RS_move h (fun b hb => g.block b (RS_bound h b hb).2 (fun e => hn b hb e.symm))
set_option maxHeartbeats 2000000 in
theorem split_calls {w : World} (g : Nat) (A : Option Addr) (c : Nat) (xs : List S) (B : Option Addr) (d : Nat) (l : List Q) (hX : Kd.C kS w A xs.length xs) (hC : Kd.C kQ w B l.length l) (hg : w.cell? ⟨g, 0, none⟩ = some (.slice B l.length d)) (hgl : g < w.heap.size) (hl : l.length ≤ 1000000) (hxl : xs.length ≤ 1024) :
    Calls Try.prog 32 #[.slice A xs.length c, .func (.func 33) #[] #[.pointer (some ⟨g, 0, none⟩)]] w fun e w' => ∃ vy vn, e = .returned (.tuple #[vy, vn]) ∧ RS w' w.heap.size vy (xs.filter fun x => l.any (inQ x.pn)) ∧ RS w' w.heap.size vn (xs.filter fun x => !l.any (inQ x.pn)) ∧ (∀ k, vy.ownBlock = some k → vn.ownBlock ≠ some k) ∧ Below w.heap.size w w' := by
  have HX := Lib.hid hX
  have HC := Lib.hid hC
  have HG := Lib.hid hg
  have HGL := Lib.hid hgl
  clear hX hC hg hgl
  go_enter Try.func32, Try.ntmps32
  go_wp2_with fail
  go_loopw [4, 5, 10] (fun vy vn i wr => ∃ k : Nat, k ≤ xs.length ∧ i = .int .i64 (k : Int) ∧ Hid (RS wr w.heap.size vy ((xs.take k).filter fun x => l.any (inQ x.pn))) ∧ Hid (RS wr w.heap.size vn ((xs.take k).filter fun x => !l.any (inQ x.pn))) ∧ Hid (∀ k, vy.ownBlock = some k → vn.ownBlock ≠ some k) ∧ Hid (Below w.heap.size w wr)) (fun _ _ i _ => xs.length - (intOf i).toNat)
  case atStart => exact ⟨0, by omega, rfl, Lib.hid (Kd.R_nil _ _ _ _ _), Lib.hid (Kd.R_nil _ _ _ _ _), Lib.hid (fun _ h => nomatch h), Lib.hid (Below.refl _ _)⟩
  case round =>
    obtain ⟨k, hk, rfl, HY, HN, HA, HB⟩ := hrel
    by_cases hkl : k < xs.length
    · have hXr := Kd.C_below HX.out HB.out
      obtain ⟨A', eA, j0, j1, j2, j3, j4⟩ := at_S hXr k hkl
      subst eA
      have et : xs.take (k + 1) = xs.take k ++ [rdS xs (k : Int)] := by rw [rdS_in hkl]; exact List.take_succ_eq_append_getElem hkl
      have HT := Lib.hid et
      clear et hXr
      obtain ⟨x, hx⟩ : ∃ x, rdS xs (k : Int) = x := ⟨_, rfl⟩
      rw [hx] at j0 j1 j2 j3 j4 HT
      clear hx
      have hsz := HB.out.size
      have B1 := (Below.refl wr.heap.size wr).alloc (Nat.le_refl _) (.cells #[.int .u64 x.pn, .int .u64 x.time, .int .u64 x.size, .bool x.asks, .slice x.fa x.fn x.fc] 30)
      have HB1 := Lib.hid B1
      have HK1 := Lib.hid (sent_cells (w := wr) x 30)
      clear B1
      go_upto_region 4 with fail
      generalize wr.alloc (.cells #[.int .u64 x.pn, .int .u64 x.time, .int .u64 x.size, .bool x.asks, .slice x.fa x.fn x.fc] 30) = w1 at HB1 HK1 ⊢
      have hB1 := HB.out.trans (HB1.out.mono hsz)
      have SO := so_calls (w := w1) g x B d l (Kd.C_below HC.out hB1) ((cell_below HG.out HGL.out hB1)) (Nat.lt_of_lt_of_le HGL.out hB1.size) hl
      have HSO := Lib.hid SO
      have HBB := Lib.hid hB1
      clear SO hB1 j0 j1 j2 j3 j4
      have k0 := blk_cell HK1.out 0
      have k1 := blk_cell HK1.out 1
      have k2 := blk_cell HK1.out 2
      have k3 := blk_cell HK1.out 3
      have k4 := blk_cell HK1.out 4
      go_wp2_with fail
      refine HSO.out.mono ?_
      rintro e w2 ⟨rfl, B2⟩
      have hs1 := HBB.out.size
      have hs2 := B2.size
      have HK2 := Lib.hid (blk_below HK1.out B2)
      have B12 := HB1.out.trans (B2.mono HB1.out.size)
      have RY := Kd.R_below HY.out B12
      have RN := Kd.R_below HN.out B12
      have HBC := Lib.hid (HBB.out.trans (B2.mono HBB.out.size))
      clear k0 k1 k2 k3 k4 B2 B12
      have k0 := blk_cell HK2.out 0
      have k1 := blk_cell HK2.out 1
      have k2 := blk_cell HK2.out 2
      have k3 := blk_cell HK2.out 3
      have k4 := blk_cell HK2.out 4
      have hlt : (xs.take k).length ≤ 1024 := by rw [List.length_take]; omega
      have hfy := Nat.le_trans (List.length_filter_le (fun x : S => l.any (inQ x.pn)) (xs.take k)) hlt
      have hfn := Nat.le_trans (List.length_filter_le (fun x : S => !l.any (inQ x.pn)) (xs.take k)) hlt
      have HHY := Lib.hid RY
      have HHN := Lib.hid RN
      clear RY RN hlt
      have hab := fun b h => HA.out b h
      cases ht : l.any (inQ x.pn) with
      | true =>
        have HTT := Lib.hid ht
        clear ht
        go_wp2_with (first
          | ((with_reducible refine gate_builtin (b := .append) (xs := #[.tmp 17, .tmp 19]) rfl ?_); refine appS (w0 := w2) w.heap.size rfl (.tmp 17) (.tmp 19) rfl (q := x) HHY.out rfl rfl (Below.refl _ _) (by omega) (by omega) ?_; intro v8 w8 R8 B8 G8 N8))
        go_roundw
        case rel =>
          refine ⟨k + 1, by omega, by simp, ?_, ?_, ?_, Lib.hid (HBC.out.trans (B8.mono (Nat.le_refl _)))⟩
          · rw [HT.out, List.filter_append]; simp only [List.filter, HTT.out]; exact Lib.hid R8
          · rw [HT.out, List.filter_append]; simp only [List.filter, HTT.out, Bool.not_true, List.append_nil]
            exact Lib.hid (RS_grown HHN.out G8 (fun b hb e => HA.out b e hb))
          · refine Lib.hid (fun b hb e => ?_)
            rcases N8 with h | ⟨b', h, hb'⟩
            · exact HA.out b (h ▸ hb) e
            · rw [h] at hb; injection hb with hb
              have := (RS_bound HHN.out b e).2
              omega
        case measure => simp [intOf]; omega
      | false =>
        have HTT := Lib.hid ht
        clear ht
        go_wp2_with (first
          | ((with_reducible refine gate_builtin (b := .append) (xs := #[.tmp 21, .tmp 23]) rfl ?_); refine appS (w0 := w2) w.heap.size rfl (.tmp 21) (.tmp 23) rfl (q := x) HHN.out rfl rfl (Below.refl _ _) (by omega) (by omega) ?_; intro v8 w8 R8 B8 G8 N8))
        go_roundw
        case rel =>
          refine ⟨k + 1, by omega, by simp, ?_, ?_, ?_, Lib.hid (HBC.out.trans (B8.mono (Nat.le_refl _)))⟩
          · rw [HT.out, List.filter_append]; simp only [List.filter, HTT.out, List.append_nil]
            exact Lib.hid (RS_grown HHY.out G8 (fun b hb e => HA.out b hb e))
          · rw [HT.out, List.filter_append]; simp only [List.filter, HTT.out, Bool.not_false]; exact Lib.hid R8
          · refine Lib.hid (fun b hb e => ?_)
            rcases N8 with h | ⟨b', h, hb'⟩
            · exact HA.out b hb (h ▸ e)
            · rw [h] at e; injection e with e
              have := (RS_bound HHY.out b hb).2
              omega
        case measure => simp [intOf]; omega
    · have e : xs.take k = xs := List.take_of_length_le (by omega)
      rw [e] at HY HN
      go_wp2_with fail
      go_ret2
      exact ⟨_, _, rfl, HY.out, HN.out, HA.out, HB.out⟩
end Go.Proofs.Ytgdboikoejodpaa.Split
