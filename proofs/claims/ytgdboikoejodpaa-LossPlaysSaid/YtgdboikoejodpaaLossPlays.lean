/- The law LossPlays: an act of any kind. -/
import Derived.Test.YtgdboikoejodpaaPlaysH
import Derived.Test.YtgdboikoejodpaaPlaysE
import Derived.Test.YtgdboikoejodpaaPlaysD
import Derived.Test.YtgdboikoejodpaaPlaysG
import Derived.Test.YtgdboikoejodpaaPlaysT
import Derived.Test.YtgdboikoejodpaaLaw
namespace Go.Proofs.Ytgdboikoejodpaa.PlaysN
open Go Go.RowKit Go.Proofs.YtgdboikoejodpaaW.PrintWords Go.Proofs.YtgdboikoejodpaaW.PrintLast Go.Proofs.YtgdboikoejodpaaW.PrintMore Go.Proofs.Ytgdboikoejodpaa.Keep Go.Proofs.Ytgdboikoejodpaa.Led Go.Proofs.Ytgdboikoejodpaa.Rate Go.Proofs.Ytgdboikoejodpaa.Rd Go.Proofs.Ytgdboikoejodpaa.Timer Go.Proofs.Ytgdboikoejodpaa.LedSp Go.Proofs.Ytgdboikoejodpaa.Drop Go.Proofs.Ytgdboikoejodpaa.In Go.Proofs.Ytgdboikoejodpaa.Split Go.Proofs.Ytgdboikoejodpaa.GoneP Go.Proofs.Ytgdboikoejodpaa.Gone Go.Proofs.Ytgdboikoejodpaa.AckP Go.Proofs.Ytgdboikoejodpaa.Ack Go.Proofs.Ytgdboikoejodpaa.Clone Go.Proofs.Ytgdboikoejodpaa.Sent Go.Proofs.Ytgdboikoejodpaa.Inv Go.Proofs.Ytgdboikoejodpaa.Fire Go.Proofs.Ytgdboikoejodpaa.Law Go.Proofs.Ytgdboikoejodpaa.Ref Go.Proofs.Ytgdboikoejodpaa.RefB Go.Proofs.Ytgdboikoejodpaa.RefLost Go.Proofs.Ytgdboikoejodpaa.RefSent Go.Proofs.Ytgdboikoejodpaa.RefAck Go.Proofs.Ytgdboikoejodpaa.RefFire Go.Proofs.Ytgdboikoejodpaa.OpenL Go.Proofs.Ytgdboikoejodpaa.PlaysP Go.Proofs.Ytgdboikoejodpaa.PlaysW Go.Proofs.Ytgdboikoejodpaa.PlaysQ Go.Proofs.Ytgdboikoejodpaa.Plays0 Go.Proofs.Ytgdboikoejodpaa.PlaysL
set_option linter.unusedVariables false
theorem done (w : World) (B : Option Addr) (c : Nat) (l : List A) (p q : Nat) (k i b : Nat) (now kd : Int) (n : Nat) (L : Lg) (v v' : Nat → Value) (x : A) (F : Option Addr) (f : Nat) (BB : Option Addr) (d : Nat) (a : Act) (wr : World) (hkd : 0 ≤ kd ∧ kd ≤ 9) (H : SI w B c l p q k i b now kd n L v v' x F f BB d a wr) (K : Act → World → Prop) (Q' : Exit → Act → World → Prop) (hK : Hid (∀ a' w', SO w B c l p q k i a' w' → K a' w')) :
    Code.wp Try.prog sw (Exit.then K Q') a wr := by
  by_cases h3 : kd ≤ 3
  · exact PlaysH.done w B c l p q k i b now kd ⟨hkd.1, h3⟩ n L v v' x F f BB d a wr H K Q' hK
  · rcases (by omega : kd = 4 ∨ kd = 5 ∨ kd = 6 ∨ kd = 7 ∨ kd = 8 ∨ kd = 9) with rfl | rfl | rfl | rfl | rfl | rfl
    · exact PlaysC.done w B c l p q k i b now n L v v' x F f BB d a wr H K Q' hK
    · exact PlaysE.done w B c l p q k i b now n L v v' x F f BB d a wr H K Q' hK
    · exact PlaysF.done w B c l p q k i b now n L v v' x F f BB d a wr H K Q' hK
    · exact PlaysD.done w B c l p q k i b now n L v v' x F f BB d a wr H K Q' hK
    · exact PlaysG.done w B c l p q k i b now n L v v' x F f BB d a wr H K Q' hK
    · exact PlaysA.done w B c l p q k i b now n L v v' x F f BB d a wr H K Q' hK
end Go.Proofs.Ytgdboikoejodpaa.PlaysN

namespace Go.Proofs.Ytgdboikoejodpaa.Plays1
open Go Go.RowKit Go.Proofs.YtgdboikoejodpaaW.PrintWords Go.Proofs.YtgdboikoejodpaaW.PrintLast Go.Proofs.YtgdboikoejodpaaW.PrintMore Go.Proofs.Ytgdboikoejodpaa.Keep Go.Proofs.Ytgdboikoejodpaa.Led Go.Proofs.Ytgdboikoejodpaa.Rate Go.Proofs.Ytgdboikoejodpaa.Rd Go.Proofs.Ytgdboikoejodpaa.Timer Go.Proofs.Ytgdboikoejodpaa.LedSp Go.Proofs.Ytgdboikoejodpaa.Drop Go.Proofs.Ytgdboikoejodpaa.In Go.Proofs.Ytgdboikoejodpaa.Split Go.Proofs.Ytgdboikoejodpaa.GoneP Go.Proofs.Ytgdboikoejodpaa.Gone Go.Proofs.Ytgdboikoejodpaa.AckP Go.Proofs.Ytgdboikoejodpaa.Ack Go.Proofs.Ytgdboikoejodpaa.Clone Go.Proofs.Ytgdboikoejodpaa.Sent Go.Proofs.Ytgdboikoejodpaa.Inv Go.Proofs.Ytgdboikoejodpaa.Fire Go.Proofs.Ytgdboikoejodpaa.Law Go.Proofs.Ytgdboikoejodpaa.Ref Go.Proofs.Ytgdboikoejodpaa.RefB Go.Proofs.Ytgdboikoejodpaa.RefLost Go.Proofs.Ytgdboikoejodpaa.RefSent Go.Proofs.Ytgdboikoejodpaa.RefAck Go.Proofs.Ytgdboikoejodpaa.RefFire Go.Proofs.Ytgdboikoejodpaa.OpenL Go.Proofs.Ytgdboikoejodpaa.PlaysP Go.Proofs.Ytgdboikoejodpaa.PlaysW Go.Proofs.Ytgdboikoejodpaa.PlaysQ Go.Proofs.Ytgdboikoejodpaa.Plays0 Go.Proofs.Ytgdboikoejodpaa.PlaysL
set_option linter.unusedVariables false
set_option maxHeartbeats 8000000 in
set_option maxRecDepth 1000000 in
theorem round (w : World) (B : Option Addr) (c : Nat) (l : List A) (p q : Nat) (HC : Hid (Kd.C kA w B l.length l)) (HBA : Hid (∀ x ∈ l, BA x)) (hlb : l.length ≤ 9223372036854775807) (u : Nat → Value) (k : Nat) (now : Int) (n : Nat) (L : Lg) (v v' : Nat → Value) (wr : World) (Q0 : Exit → Act → World → Prop) (hexit : ∀ a w'', a.tmps.size = 437 → a.defers = [] → Below w.heap.size w w'' → Q0 (.exit 0) a w'') (HR : Hid (Rel w B c l p q k now wr n L v v')) :
    Code.wp Try.prog body (Exit.then (fun a' w'' => WI w B c l p q a' w'' ∧ Wmu l a' w'' < Wmu l ⟨#[.slice B l.length c, u 1, u 2, .pointer (some ⟨p, 0, none⟩), .pointer (some ⟨q, 0, none⟩), .int .u64 now, u 6, u 7, u 8, u 9, u 10, u 11, u 12, u 13, u 14, u 15, u 16, u 17, u 18, u 19, u 20, u 21, u 22, u 23, u 24, u 25, u 26, u 27, u 28, u 29, u 30, u 31, u 32, u 33, u 34, u 35, u 36, u 37, u 38, u 39, u 40, u 41, u 42, u 43, u 44, u 45, .slice B l.length c, .int .i64 (l.length : Int), .int .i64 (k : Int), u 49, u 50, u 51, u 52, u 53, u 54, u 55, u 56, u 57, u 58, u 59, u 60, u 61, u 62, u 63, u 64, u 65, u 66, u 67, u 68, u 69, u 70, u 71, u 72, u 73, u 74, u 75, u 76, u 77, u 78, u 79, u 80, u 81, u 82, u 83, u 84, u 85, u 86, u 87, u 88, u 89, u 90, u 91, u 92, u 93, u 94, u 95, u 96, u 97, u 98, u 99, u 100, u 101, u 102, u 103, u 104, u 105, u 106, u 107, u 108, u 109, u 110, u 111, u 112, u 113, u 114, u 115, u 116, u 117, u 118, u 119, u 120, u 121, u 122, u 123, u 124, u 125, u 126, u 127, u 128, u 129, u 130, u 131, u 132, u 133, u 134, u 135, u 136, u 137, u 138, u 139, u 140, u 141, u 142, u 143, u 144, u 145, u 146, u 147, u 148, u 149, u 150, u 151, u 152, u 153, u 154, u 155, u 156, u 157, u 158, u 159, u 160, u 161, u 162, u 163, u 164, u 165, u 166, u 167, u 168, u 169, u 170, u 171, u 172, u 173, u 174, u 175, u 176, u 177, u 178, u 179, u 180, u 181, u 182, u 183, u 184, u 185, u 186, u 187, u 188, u 189, u 190, u 191, u 192, u 193, u 194, u 195, u 196, u 197, u 198, u 199, u 200, u 201, u 202, u 203, u 204, u 205, u 206, u 207, u 208, u 209, u 210, u 211, u 212, u 213, u 214, u 215, u 216, u 217, u 218, u 219, u 220, u 221, u 222, u 223, u 224, u 225, u 226, u 227, u 228, u 229, u 230, u 231, u 232, u 233, u 234, u 235, u 236, u 237, u 238, u 239, u 240, u 241, u 242, u 243, u 244, u 245, u 246, u 247, u 248, u 249, u 250, u 251, u 252, u 253, u 254, u 255, u 256, u 257, u 258, u 259, u 260, u 261, u 262, u 263, u 264, u 265, u 266, u 267, u 268, u 269, u 270, u 271, u 272, u 273, u 274, u 275, u 276, u 277, u 278, u 279, u 280, u 281, u 282, u 283, u 284, u 285, u 286, u 287, u 288, u 289, u 290, u 291, u 292, u 293, u 294, u 295, u 296, u 297, u 298, u 299, u 300, u 301, u 302, u 303, u 304, u 305, u 306, u 307, u 308, u 309, u 310, u 311, u 312, u 313, u 314, u 315, u 316, u 317, u 318, u 319, u 320, u 321, u 322, u 323, u 324, u 325, u 326, u 327, u 328, u 329, u 330, u 331, u 332, u 333, u 334, u 335, u 336, u 337, u 338, u 339, u 340, u 341, u 342, u 343, u 344, u 345, u 346, u 347, u 348, u 349, u 350, u 351, u 352, u 353, u 354, u 355, u 356, u 357, u 358, u 359, u 360, u 361, u 362, u 363, u 364, u 365, u 366, u 367, u 368, u 369, u 370, u 371, u 372, u 373, u 374, u 375, u 376, u 377, u 378, u 379, u 380, u 381, u 382, u 383, u 384, u 385, u 386, u 387, u 388, u 389, u 390, u 391, u 392, u 393, u 394, u 395, u 396, u 397, u 398, u 399, u 400, u 401, u 402, u 403, u 404, u 405, u 406, u 407, u 408, u 409, u 410, u 411, u 412, u 413, u 414, u 415, u 416, u 417, u 418, u 419, u 420, u 421, u 422, u 423, u 424, u 425, u 426, u 427, u 428, u 429, u 430, u 431, u 432, u 433, u 434, u 435, u 436], []⟩ wr) Q0) ⟨#[.slice B l.length c, u 1, u 2, .pointer (some ⟨p, 0, none⟩), .pointer (some ⟨q, 0, none⟩), .int .u64 now, u 6, u 7, u 8, u 9, u 10, u 11, u 12, u 13, u 14, u 15, u 16, u 17, u 18, u 19, u 20, u 21, u 22, u 23, u 24, u 25, u 26, u 27, u 28, u 29, u 30, u 31, u 32, u 33, u 34, u 35, u 36, u 37, u 38, u 39, u 40, u 41, u 42, u 43, u 44, u 45, .slice B l.length c, .int .i64 (l.length : Int), .int .i64 (k : Int), u 49, u 50, u 51, u 52, u 53, u 54, u 55, u 56, u 57, u 58, u 59, u 60, u 61, u 62, u 63, u 64, u 65, u 66, u 67, u 68, u 69, u 70, u 71, u 72, u 73, u 74, u 75, u 76, u 77, u 78, u 79, u 80, u 81, u 82, u 83, u 84, u 85, u 86, u 87, u 88, u 89, u 90, u 91, u 92, u 93, u 94, u 95, u 96, u 97, u 98, u 99, u 100, u 101, u 102, u 103, u 104, u 105, u 106, u 107, u 108, u 109, u 110, u 111, u 112, u 113, u 114, u 115, u 116, u 117, u 118, u 119, u 120, u 121, u 122, u 123, u 124, u 125, u 126, u 127, u 128, u 129, u 130, u 131, u 132, u 133, u 134, u 135, u 136, u 137, u 138, u 139, u 140, u 141, u 142, u 143, u 144, u 145, u 146, u 147, u 148, u 149, u 150, u 151, u 152, u 153, u 154, u 155, u 156, u 157, u 158, u 159, u 160, u 161, u 162, u 163, u 164, u 165, u 166, u 167, u 168, u 169, u 170, u 171, u 172, u 173, u 174, u 175, u 176, u 177, u 178, u 179, u 180, u 181, u 182, u 183, u 184, u 185, u 186, u 187, u 188, u 189, u 190, u 191, u 192, u 193, u 194, u 195, u 196, u 197, u 198, u 199, u 200, u 201, u 202, u 203, u 204, u 205, u 206, u 207, u 208, u 209, u 210, u 211, u 212, u 213, u 214, u 215, u 216, u 217, u 218, u 219, u 220, u 221, u 222, u 223, u 224, u 225, u 226, u 227, u 228, u 229, u 230, u 231, u 232, u 233, u 234, u 235, u 236, u 237, u 238, u 239, u 240, u 241, u 242, u 243, u 244, u 245, u 246, u 247, u 248, u 249, u 250, u 251, u 252, u 253, u 254, u 255, u 256, u 257, u 258, u 259, u 260, u 261, u 262, u 263, u 264, u 265, u 266, u 267, u 268, u 269, u 270, u 271, u 272, u 273, u 274, u 275, u 276, u 277, u 278, u 279, u 280, u 281, u 282, u 283, u 284, u 285, u 286, u 287, u 288, u 289, u 290, u 291, u 292, u 293, u 294, u 295, u 296, u 297, u 298, u 299, u 300, u 301, u 302, u 303, u 304, u 305, u 306, u 307, u 308, u 309, u 310, u 311, u 312, u 313, u 314, u 315, u 316, u 317, u 318, u 319, u 320, u 321, u 322, u 323, u 324, u 325, u 326, u 327, u 328, u 329, u 330, u 331, u 332, u 333, u 334, u 335, u 336, u 337, u 338, u 339, u 340, u 341, u 342, u 343, u 344, u 345, u 346, u 347, u 348, u 349, u 350, u 351, u 352, u 353, u 354, u 355, u 356, u 357, u 358, u 359, u 360, u 361, u 362, u 363, u 364, u 365, u 366, u 367, u 368, u 369, u 370, u 371, u 372, u 373, u 374, u 375, u 376, u 377, u 378, u 379, u 380, u 381, u 382, u 383, u 384, u 385, u 386, u 387, u 388, u 389, u 390, u 391, u 392, u 393, u 394, u 395, u 396, u 397, u 398, u 399, u 400, u 401, u 402, u 403, u 404, u 405, u 406, u 407, u 408, u 409, u 410, u 411, u 412, u 413, u 414, u 415, u 416, u 417, u 418, u 419, u 420, u 421, u 422, u 423, u 424, u 425, u 426, u 427, u 428, u 429, u 430, u 431, u 432, u 433, u 434, u 435, u 436], []⟩ wr := by
  conv => arg 2; whnf
  obtain ⟨hk1, hk2, hnk, hw0, hw1, HP⟩ := HR.out
  have HP := Lib.hid HP
  have HBW := Lib.hid HP.out.lw.below
  clear HR
  have hexit := Lib.hid hexit
  by_cases hkl : k < l.length
  · obtain ⟨ad, F, f, BB, d, eA, ⟨j0, j1, j2, j3, j4, j5⟩, ⟨j6, j7, j8, j9, j10⟩, ⟨j11, j12⟩, gf, gd⟩ := AC_get HC.out k hkl
    subst eA
    have j0 := (HBW.out.cell (World.block_lt_of_cell? w _ j0)).trans j0
    have j1 := (HBW.out.cell (World.block_lt_of_cell? w _ j1)).trans j1
    have j2 := (HBW.out.cell (World.block_lt_of_cell? w _ j2)).trans j2
    have j3 := (HBW.out.cell (World.block_lt_of_cell? w _ j3)).trans j3
    have j4 := (HBW.out.cell (World.block_lt_of_cell? w _ j4)).trans j4
    have j5 := (HBW.out.cell (World.block_lt_of_cell? w _ j5)).trans j5
    have j6 := (HBW.out.cell (World.block_lt_of_cell? w _ j6)).trans j6
    have j7 := (HBW.out.cell (World.block_lt_of_cell? w _ j7)).trans j7
    have j8 := (HBW.out.cell (World.block_lt_of_cell? w _ j8)).trans j8
    have j9 := (HBW.out.cell (World.block_lt_of_cell? w _ j9)).trans j9
    have j10 := (HBW.out.cell (World.block_lt_of_cell? w _ j10)).trans j10
    have j11 := (HBW.out.cell (World.block_lt_of_cell? w _ j11)).trans j11
    have j12 := (HBW.out.cell (World.block_lt_of_cell? w _ j12)).trans j12
    have hx : BA (l.getD k zA) := by rw [List.getD_eq_getElem?_getD, List.getElem?_eq_getElem hkl]; exact HBA.out _ (List.getElem_mem hkl)
    obtain ⟨x, hxe⟩ : ∃ x, l.getD k zA = x := ⟨_, rfl⟩
    rw [hxe] at j0 j1 j2 j3 j4 j5 j6 j7 j8 j9 j10 j11 j12 gf gd hx
    have BL := (Below.refl wr.heap.size wr).alloc (Nat.le_refl _) (aO x F f BB d)
    have HX := Lib.hid hx
    have HP1 := Lib.hid (HP.out.go BL)
    have HBX := Lib.hid (heap_alloc_new wr (aO x F f BB d))
    have HCF := Lib.hid gf
    have HCQ := Lib.hid gd
    have hpx2 := HP.out.lw.lt
    have hqx2 := blk_lt HP.out.rl.blk
    clear gf gd BL hxe hx HP
    go_upto_region 8 with fail
    generalize wr.alloc (aO x F f BB d) = w1 at HP1 HBX ⊢
    clear j0 j1 j2 j3 j4 j5 j6 j7 j8 j9 j10 j11 j12
    have b0 := blk_cell HBX.out 0
    have b1 := blk_cell HBX.out 1
    have b2 := blk_cell HBX.out 2
    have b3 := blk_cell HBX.out 3
    have b4 := blk_cell HBX.out 4
    have b5 := blk_cell HBX.out 5
    have b10 := blk_cell HBX.out 10
    have b11 := blk_cell HBX.out 11
    have b12 := blk_cell HBX.out 12
    obtain ⟨xk, xi, xn, xw, xs, -, -, -, xp⟩ := HX.out
    have xk := wf8_bd xk
    have xi := wf8_bd xi
    have xn := wf8_bd xn
    have xw := wf16_bd xw
    have xs := wf16_bd xs
    have xp := wfi_bd xp
    by_cases hb1 : (k : Int) > 100
    · go_wp2_with fail
      exact hexit.out _ _ rfl rfl HP1.out.lw.below
    · by_cases hb2 : (x.spans.length : Int) > 40
      · go_wp2_with fail
        exact hexit.out _ _ rfl rfl HP1.out.lw.below
      · by_cases hb3 : (x.p.fr.length : Int) > 3
        · go_wp2_with fail
          exact hexit.out _ _ rfl rfl HP1.out.lw.below
        · have hwt : IntKind.u64.wrap (x.wait % 200) = x.wait % 200 := by rw [IntKind.wrap_u64]; omega
          have hwn : IntKind.u64.wrap (now + x.wait % 200) = now + x.wait % 200 := by rw [IntKind.wrap_u64]; omega
          obtain ⟨i, hi, hi3⟩ : ∃ i : Nat, x.in_ % 3 = (i : Int) ∧ i < 3 := ⟨(x.in_ % 3).toNat, by omega, by omega⟩
          have hwi : IntKind.i64.wrap (x.in_ % 3) = i := by rw [IntKind.wrap_i64]; omega
          obtain ⟨-, m1, -, -⟩ := HP1.out.rl.ways i hi3
          obtain ⟨nx, hnx⟩ : ∃ nx, (L.sp i).next = nx := ⟨_, rfl⟩
          rw [hnx] at m1
          go_upto_block 2 with fail
          rename_i K2 hK2 _ _ _ _ _ _ K1 hK1
          refine PlaysN.done w (some ad) c l p q k i wr.heap.size (now + x.wait % 200) (x.kind % 10) n L v v' x F f BB d _ w1 (by omega) ⟨rfl, rfl, rfl, rfl, rfl, rfl, rfl, rfl, (by rw [hnx]; rfl), rfl, rfl, rfl, rfl, hi3, by omega, by omega, by omega, by omega, HX.out, by omega, by omega, by omega, by omega, HBX.out, HCF.out, HCQ.out, HP1.out⟩ K1 _ (Lib.hid fun a2 w2 h2 => ?_)
          refine hK1 _ _ ?_
          refine PlaysT.tail w (some ad) c l p q k i hi3 (by omega) a2 w2 h2 _ (Lib.hid fun a3 w3 h3 => ?_)
          show K2 a3 w3
          obtain ⟨u3, rfl, hu3⟩ := laid a3 h3.size h3.defs
          obtain ⟨now3, n3, L3, v3, v3', z0, z1, z2, HP3, s0, s3, s4, s5, s8, s46, s47, s48⟩ := h3.rel
          have g0 := (hu3 0).trans s0
          have g3 := (hu3 3).trans s3
          have g4 := (hu3 4).trans s4
          have g5 := (hu3 5).trans s5
          have g8 := (hu3 8).trans s8
          have g46 := (hu3 46).trans s46
          have g47 := (hu3 47).trans s47
          have g48 := (hu3 48).trans s48
          simp only [g0, g3, g4, g5, g8, g46, g47, g48]
          clear g0 g3 g4 g5 g8 g46 g47 g48 hu3 s0 s3 s4 s5 s8 s46 s47 s48 h3 h2
          have HP3 := Lib.hid HP3
          have hwk : IntKind.i64.wrap ((k : Int) + 1) = ((k + 1 : Nat) : Int) := by rw [IntKind.wrap_i64]; omega
          go_wp2_with fail
          refine ⟨⟨rfl, rfl, k + 1, now3, n3, L3, v3, v3', ⟨by omega, by omega, z2, z0, by omega, HP3.out⟩, rfl, rfl, rfl, rfl, rfl, rfl, rfl⟩, ?_⟩
          show l.length - ((k : Int) + 1).toNat < l.length - (k : Int).toNat
          omega
  · go_wp2_with fail
    exact hexit.out _ _ rfl rfl HBW.out
end Go.Proofs.Ytgdboikoejodpaa.Plays1

namespace Go.Proofs.Ytgdboikoejodpaa.LossPlays
open Go Go.RowKit Go.Proofs.YtgdboikoejodpaaW.PrintWords Go.Proofs.YtgdboikoejodpaaW.PrintLast Go.Proofs.YtgdboikoejodpaaW.PrintMore Go.Proofs.Ytgdboikoejodpaa.Keep Go.Proofs.Ytgdboikoejodpaa.Led Go.Proofs.Ytgdboikoejodpaa.Rate Go.Proofs.Ytgdboikoejodpaa.Rd Go.Proofs.Ytgdboikoejodpaa.Timer Go.Proofs.Ytgdboikoejodpaa.LedSp Go.Proofs.Ytgdboikoejodpaa.Drop Go.Proofs.Ytgdboikoejodpaa.In Go.Proofs.Ytgdboikoejodpaa.Split Go.Proofs.Ytgdboikoejodpaa.GoneP Go.Proofs.Ytgdboikoejodpaa.Gone Go.Proofs.Ytgdboikoejodpaa.AckP Go.Proofs.Ytgdboikoejodpaa.Ack Go.Proofs.Ytgdboikoejodpaa.Clone Go.Proofs.Ytgdboikoejodpaa.Sent Go.Proofs.Ytgdboikoejodpaa.Inv Go.Proofs.Ytgdboikoejodpaa.Fire Go.Proofs.Ytgdboikoejodpaa.Law Go.Proofs.Ytgdboikoejodpaa.Ref Go.Proofs.Ytgdboikoejodpaa.RefB Go.Proofs.Ytgdboikoejodpaa.RefLost Go.Proofs.Ytgdboikoejodpaa.RefSent Go.Proofs.Ytgdboikoejodpaa.RefAck Go.Proofs.Ytgdboikoejodpaa.RefFire Go.Proofs.Ytgdboikoejodpaa.OpenL Go.Proofs.Ytgdboikoejodpaa.PlaysP Go.Proofs.Ytgdboikoejodpaa.PlaysW Go.Proofs.Ytgdboikoejodpaa.PlaysQ Go.Proofs.Ytgdboikoejodpaa.Plays0 Go.Proofs.Ytgdboikoejodpaa.PlaysL
set_option linter.unusedVariables false
set_option maxHeartbeats 8000000 in
set_option maxRecDepth 1000000 in
theorem law (B : Option Addr) (l : List A) (c : Nat) (w : World) (hC : Kd.C kA w B l.length l) (hb : l.length ≤ 9223372036854775807 ∧ ∀ x ∈ l, BA x) :
    Calls Try.prog 8 #[.slice B l.length c] w fun e w' => e = .returned (.bool true) ∧ Below w.heap.size w w' := by
  obtain ⟨hlb, hba⟩ := hb
  have HC := Lib.hid hC
  have HBA := Lib.hid hba
  clear hba hC
  go_enter Try.func8, Try.ntmps8
  go_wp2_with fail
  refine (awake w).mono ?_
  rintro e w1 ⟨rfl, B1⟩
  go_wp2_with fail
  refine (lw_new B1).mono ?_
  rintro e w2 ⟨p, rfl, -, H2, -⟩
  go_wp2_with fail
  refine (rnew_calls (base := w.heap.size) H2.below.size).mono ?_
  rintro e w3 ⟨q, rfl, hq, H3, B3⟩
  have HP : Hid (PL w w3 p q 0 newL newL v0 v0) := Lib.hid ⟨H2.go B3, H3, fun i j b _ _ e => nomatch e⟩
  clear B1 H2 H3 B3 hq
  go_wp2_with fail
  refine wp_loop (WI w B c l p q) (Wmu l) ⟨rfl, rfl, 0, 1, 0, newL, v0, v0, ⟨by omega, by omega, by omega, by omega, by omega, HP.out⟩, rfl, rfl, rfl, rfl, rfl, rfl, rfl⟩ ?_
  intro a1 wr hI
  obtain ⟨u, rfl, hu⟩ := laid a1 hI.size hI.defs
  obtain ⟨k, now, n, L, v, v', HR, s0, s3, s4, s5, s46, s47, s48⟩ := hI.rel
  have g0 := (hu 0).trans s0
  have g3 := (hu 3).trans s3
  have g4 := (hu 4).trans s4
  have g5 := (hu 5).trans s5
  have g46 := (hu 46).trans s46
  have g47 := (hu 47).trans s47
  have g48 := (hu 48).trans s48
  simp only [g0, g3, g4, g5, g46, g47, g48]
  clear hI hu g0 g3 g4 g5 g46 g47 g48 s0 s3 s4 s5 s46 s47 s48
  refine Plays1.round w B c l p q HC HBA hlb u k now n L v v' wr _ ?_ (Lib.hid HR)
  intro a2 w4 hs hd hB
  obtain ⟨u2, rfl, -⟩ := laid a2 hs hd
  rename_i K1 hK1
  show K1 _ w4
  refine hK1 _ _ ?_
  go_wp2_with fail
  go_ret
  exact ⟨rfl, hB⟩
end Go.Proofs.Ytgdboikoejodpaa.LossPlays

