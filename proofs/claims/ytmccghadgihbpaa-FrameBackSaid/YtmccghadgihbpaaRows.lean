/-
  No cell of these rows narrows 'for every input' (looked for: loops, veiled, ifaces, maps, wideKeys, modest, calm, conditions, laid).
  DERIVED. THE GIVEN ROWS OF THIS SEAT. 15 by the template 'for every input the law returns true; each argument reads behind the call as it read before'; 0 by the template 'total and deterministic' (their statements: YtmccghadgihbpaaTotals.lean).
  GIVEN WITH THE SEED: the statements are not yours to turn. If you find one false, say at which input.
  Laid BY PROGRAM, IN A SANDBOX (cutbox-rows.mjs): the forced cells as the released guide's own fill.sh prints them over the translation dd584d5ab2a8582d… (all of the seat's roots in one cut). By AI agents, Wed Nov 11 2026. No macro, syntax, notation, axiom, sorry.
-/
import Derived.Test.YtmccghadgihbpaaChecked
import GoSem.Claim
import GoSem.ClaimJoined
import GoSem.ClaimMapViews
import Derived.JoinedTies
import Derived.KernelRfl
namespace Go.Proofs.Ytmccghadgihbpaa
/- THE CELL 'sum', in the pinned program and in every row, IS THE sha256 OF THE DUMP (.gsa) THAT YtmccghadgihbpaaProg.lean LOADS. Nothing in Lean hashes anything: it is a label: what it is worth is what the hold of that sum in a sandbox is worth. -/
noncomputable def Try.pinned : Pinned := { name := "ytmccghadgihbpaa", sum := "dd584d5ab2a8582de85cafc66049e9d4c4ef09cfd5e828b1efe87c446d347f72", checked := Try.checked }
namespace Rows
def none {H : Type} : Left H := { results := [], args := [] }

/-- 'skifflaw12.HeadNumbers': WHATEVER THE INPUT: true; the input reads as it did. -/
def headNumbersSpec : ChangeSpec := { name := "headNumbers", fn := fun _ => fun
  | [d1, d2, d3, d4, d5] => { results := [.lit (.bool true)], args := [d1, d2, d3, d4, d5] }
  | _ => none }
def headNumbersRow : OpenClaim := { program := "ytmccghadgihbpaa", sum := "dd584d5ab2a8582de85cafc66049e9d4c4ef09cfd5e828b1efe87c446d347f72", func := "skiff/skifflaw12.HeadNumbers", spec := "headNumbers", apart := false }
def HeadNumbersSaid : Prop := headNumbersRow.holds Try.pinned (OpenSpec.ofChange headNumbersSpec)

/-- ITS FALSE NEIGHBOUR: 'it returns false'. Refute it at one input. -/
def headNumbersWrong : ChangeSpec := { name := "headNumbers", fn := fun _ => fun
  | [d1, d2, d3, d4, d5] => { results := [.lit (.bool false)], args := [d1, d2, d3, d4, d5] }
  | _ => none }
def HeadNumbersWrongFalsely : Prop := headNumbersRow.holds Try.pinned (OpenSpec.ofChange headNumbersWrong)

/-- 'skifflaw12.HeadNear': WHATEVER THE INPUT: true; the input reads as it did. -/
def headNearSpec : ChangeSpec := { name := "headNear", fn := fun _ => fun
  | [d1, d2, d3] => { results := [.lit (.bool true)], args := [d1, d2, d3] }
  | _ => none }
def headNearRow : OpenClaim := { program := "ytmccghadgihbpaa", sum := "dd584d5ab2a8582de85cafc66049e9d4c4ef09cfd5e828b1efe87c446d347f72", func := "skiff/skifflaw12.HeadNear", spec := "headNear", apart := false }
def HeadNearSaid : Prop := headNearRow.holds Try.pinned (OpenSpec.ofChange headNearSpec)

/-- ITS FALSE NEIGHBOUR: 'it returns false'. Refute it at one input. -/
def headNearWrong : ChangeSpec := { name := "headNear", fn := fun _ => fun
  | [d1, d2, d3] => { results := [.lit (.bool false)], args := [d1, d2, d3] }
  | _ => none }
def HeadNearWrongFalsely : Prop := headNearRow.holds Try.pinned (OpenSpec.ofChange headNearWrong)

/-- 'skifflaw12.HeadFull': WHATEVER THE INPUT: true; the input reads as it did. -/
def headFullSpec : ChangeSpec := { name := "headFull", fn := fun _ => fun
  | [d1, d2, d3] => { results := [.lit (.bool true)], args := [d1, d2, d3] }
  | _ => none }
def headFullRow : OpenClaim := { program := "ytmccghadgihbpaa", sum := "dd584d5ab2a8582de85cafc66049e9d4c4ef09cfd5e828b1efe87c446d347f72", func := "skiff/skifflaw12.HeadFull", spec := "headFull", apart := false }
def HeadFullSaid : Prop := headFullRow.holds Try.pinned (OpenSpec.ofChange headFullSpec)

/-- ITS FALSE NEIGHBOUR: 'it returns false'. Refute it at one input. -/
def headFullWrong : ChangeSpec := { name := "headFull", fn := fun _ => fun
  | [d1, d2, d3] => { results := [.lit (.bool false)], args := [d1, d2, d3] }
  | _ => none }
def HeadFullWrongFalsely : Prop := headFullRow.holds Try.pinned (OpenSpec.ofChange headFullWrong)

/-- 'skifflaw12.HeadPuts': WHATEVER THE INPUT: true; the input reads as it did. -/
def headPutsSpec : ChangeSpec := { name := "headPuts", fn := fun _ => fun
  | [d1, d2, d3, d4, d5] => { results := [.lit (.bool true)], args := [d1, d2, d3, d4, d5] }
  | _ => none }
def headPutsRow : OpenClaim := { program := "ytmccghadgihbpaa", sum := "dd584d5ab2a8582de85cafc66049e9d4c4ef09cfd5e828b1efe87c446d347f72", func := "skiff/skifflaw12.HeadPuts", spec := "headPuts", apart := false }
def HeadPutsSaid : Prop := headPutsRow.holds Try.pinned (OpenSpec.ofChange headPutsSpec)

/-- ITS FALSE NEIGHBOUR: 'it returns false'. Refute it at one input. -/
def headPutsWrong : ChangeSpec := { name := "headPuts", fn := fun _ => fun
  | [d1, d2, d3, d4, d5] => { results := [.lit (.bool false)], args := [d1, d2, d3, d4, d5] }
  | _ => none }
def HeadPutsWrongFalsely : Prop := headPutsRow.holds Try.pinned (OpenSpec.ofChange headPutsWrong)

/-- 'skifflaw10.VarintPuts': WHATEVER THE INPUT: true; the input reads as it did. -/
def varintPutsSpec : ChangeSpec := { name := "varintPuts", fn := fun _ => fun
  | [d1, d2] => { results := [.lit (.bool true)], args := [d1, d2] }
  | _ => none }
def varintPutsRow : OpenClaim := { program := "ytmccghadgihbpaa", sum := "dd584d5ab2a8582de85cafc66049e9d4c4ef09cfd5e828b1efe87c446d347f72", func := "skiff/skifflaw10.VarintPuts", spec := "varintPuts", apart := false }
def VarintPutsSaid : Prop := varintPutsRow.holds Try.pinned (OpenSpec.ofChange varintPutsSpec)

/-- ITS FALSE NEIGHBOUR: 'it returns false'. Refute it at one input. -/
def varintPutsWrong : ChangeSpec := { name := "varintPuts", fn := fun _ => fun
  | [d1, d2] => { results := [.lit (.bool false)], args := [d1, d2] }
  | _ => none }
def VarintPutsWrongFalsely : Prop := varintPutsRow.holds Try.pinned (OpenSpec.ofChange varintPutsWrong)

/-- 'skifflaw10.VarintWide': WHATEVER THE INPUT: true; the input reads as it did. -/
def varintWideSpec : ChangeSpec := { name := "varintWide", fn := fun _ => fun
  | [d1, d2] => { results := [.lit (.bool true)], args := [d1, d2] }
  | _ => none }
def varintWideRow : OpenClaim := { program := "ytmccghadgihbpaa", sum := "dd584d5ab2a8582de85cafc66049e9d4c4ef09cfd5e828b1efe87c446d347f72", func := "skiff/skifflaw10.VarintWide", spec := "varintWide", apart := false }
def VarintWideSaid : Prop := varintWideRow.holds Try.pinned (OpenSpec.ofChange varintWideSpec)

/-- ITS FALSE NEIGHBOUR: 'it returns false'. Refute it at one input. -/
def varintWideWrong : ChangeSpec := { name := "varintWide", fn := fun _ => fun
  | [d1, d2] => { results := [.lit (.bool false)], args := [d1, d2] }
  | _ => none }
def VarintWideWrongFalsely : Prop := varintWideRow.holds Try.pinned (OpenSpec.ofChange varintWideWrong)

/-- 'skifflaw10.VarintBack': WHATEVER THE INPUT: true; the input reads as it did. -/
def varintBackSpec : ChangeSpec := { name := "varintBack", fn := fun _ => fun
  | [d1, d2] => { results := [.lit (.bool true)], args := [d1, d2] }
  | _ => none }
def varintBackRow : OpenClaim := { program := "ytmccghadgihbpaa", sum := "dd584d5ab2a8582de85cafc66049e9d4c4ef09cfd5e828b1efe87c446d347f72", func := "skiff/skifflaw10.VarintBack", spec := "varintBack", apart := false }
def VarintBackSaid : Prop := varintBackRow.holds Try.pinned (OpenSpec.ofChange varintBackSpec)

/-- ITS FALSE NEIGHBOUR: 'it returns false'. Refute it at one input. -/
def varintBackWrong : ChangeSpec := { name := "varintBack", fn := fun _ => fun
  | [d1, d2] => { results := [.lit (.bool false)], args := [d1, d2] }
  | _ => none }
def VarintBackWrongFalsely : Prop := varintBackRow.holds Try.pinned (OpenSpec.ofChange varintBackWrong)

/-- 'skifflaw10.VarintNil': WHATEVER THE INPUT: true; the input reads as it did. -/
def varintNilSpec : ChangeSpec := { name := "varintNil", fn := fun _ => fun
  | [d1, d2] => { results := [.lit (.bool true)], args := [d1, d2] }
  | _ => none }
def varintNilRow : OpenClaim := { program := "ytmccghadgihbpaa", sum := "dd584d5ab2a8582de85cafc66049e9d4c4ef09cfd5e828b1efe87c446d347f72", func := "skiff/skifflaw10.VarintNil", spec := "varintNil", apart := false }
def VarintNilSaid : Prop := varintNilRow.holds Try.pinned (OpenSpec.ofChange varintNilSpec)

/-- ITS FALSE NEIGHBOUR: 'it returns false'. Refute it at one input. -/
def varintNilWrong : ChangeSpec := { name := "varintNil", fn := fun _ => fun
  | [d1, d2] => { results := [.lit (.bool false)], args := [d1, d2] }
  | _ => none }
def VarintNilWrongFalsely : Prop := varintNilRow.holds Try.pinned (OpenSpec.ofChange varintNilWrong)

/-- 'skifflaw11.FrameEncodes': WHATEVER THE INPUT: true; the input reads as it did. -/
def frameEncodesSpec : ChangeSpec := { name := "frameEncodes", fn := fun _ => fun
  | [d] => { results := [.lit (.bool true)], args := [d] }
  | _ => none }
def frameEncodesRow : OpenClaim := { program := "ytmccghadgihbpaa", sum := "dd584d5ab2a8582de85cafc66049e9d4c4ef09cfd5e828b1efe87c446d347f72", func := "skiff/skifflaw11.FrameEncodes", spec := "frameEncodes", unfollowed := true, recurses := true, apart := false }
def FrameEncodesSaid : Prop := frameEncodesRow.holds Try.pinned (OpenSpec.ofChange frameEncodesSpec)

/-- ITS FALSE NEIGHBOUR: 'it returns false'. Refute it at one input. -/
def frameEncodesWrong : ChangeSpec := { name := "frameEncodes", fn := fun _ => fun
  | [d] => { results := [.lit (.bool false)], args := [d] }
  | _ => none }
def FrameEncodesWrongFalsely : Prop := frameEncodesRow.holds Try.pinned (OpenSpec.ofChange frameEncodesWrong)

/-- 'skifflaw12.HeadBack': WHATEVER THE INPUT: true; the input reads as it did. -/
def headBackSpec : ChangeSpec := { name := "headBack", fn := fun _ => fun
  | [d1, d2, d3, d4, d5, d6, d7] => { results := [.lit (.bool true)], args := [d1, d2, d3, d4, d5, d6, d7] }
  | _ => none }
def headBackRow : OpenClaim := { program := "ytmccghadgihbpaa", sum := "dd584d5ab2a8582de85cafc66049e9d4c4ef09cfd5e828b1efe87c446d347f72", func := "skiff/skifflaw12.HeadBack", spec := "headBack", apart := false }
def HeadBackSaid : Prop := headBackRow.holds Try.pinned (OpenSpec.ofChange headBackSpec)

/-- ITS FALSE NEIGHBOUR: 'it returns false'. Refute it at one input. -/
def headBackWrong : ChangeSpec := { name := "headBack", fn := fun _ => fun
  | [d1, d2, d3, d4, d5, d6, d7] => { results := [.lit (.bool false)], args := [d1, d2, d3, d4, d5, d6, d7] }
  | _ => none }
def HeadBackWrongFalsely : Prop := headBackRow.holds Try.pinned (OpenSpec.ofChange headBackWrong)

/-- 'skifflaw12.HeadCut': WHATEVER THE INPUT: true; the input reads as it did. -/
def headCutSpec : ChangeSpec := { name := "headCut", fn := fun _ => fun
  | [d1, d2, d3, d4, d5] => { results := [.lit (.bool true)], args := [d1, d2, d3, d4, d5] }
  | _ => none }
def headCutRow : OpenClaim := { program := "ytmccghadgihbpaa", sum := "dd584d5ab2a8582de85cafc66049e9d4c4ef09cfd5e828b1efe87c446d347f72", func := "skiff/skifflaw12.HeadCut", spec := "headCut", apart := false }
def HeadCutSaid : Prop := headCutRow.holds Try.pinned (OpenSpec.ofChange headCutSpec)

/-- ITS FALSE NEIGHBOUR: 'it returns false'. Refute it at one input. -/
def headCutWrong : ChangeSpec := { name := "headCut", fn := fun _ => fun
  | [d1, d2, d3, d4, d5] => { results := [.lit (.bool false)], args := [d1, d2, d3, d4, d5] }
  | _ => none }
def HeadCutWrongFalsely : Prop := headCutRow.holds Try.pinned (OpenSpec.ofChange headCutWrong)

/-- 'skifflaw11.FrameBack': WHATEVER THE INPUT: true; the input reads as it did. -/
def frameBackSpec : ChangeSpec := { name := "frameBack", fn := fun _ => fun
  | [d] => { results := [.lit (.bool true)], args := [d] }
  | _ => none }
def frameBackRow : OpenClaim := { program := "ytmccghadgihbpaa", sum := "dd584d5ab2a8582de85cafc66049e9d4c4ef09cfd5e828b1efe87c446d347f72", func := "skiff/skifflaw11.FrameBack", spec := "frameBack", unfollowed := true, recurses := true, apart := false }
def FrameBackSaid : Prop := frameBackRow.holds Try.pinned (OpenSpec.ofChange frameBackSpec)

/-- ITS FALSE NEIGHBOUR: 'it returns false'. Refute it at one input. -/
def frameBackWrong : ChangeSpec := { name := "frameBack", fn := fun _ => fun
  | [d] => { results := [.lit (.bool false)], args := [d] }
  | _ => none }
def FrameBackWrongFalsely : Prop := frameBackRow.holds Try.pinned (OpenSpec.ofChange frameBackWrong)

/-- 'skifflaw11.FrameMany': WHATEVER THE INPUT: true; the input reads as it did. -/
def frameManySpec : ChangeSpec := { name := "frameMany", fn := fun _ => fun
  | [d1, d2] => { results := [.lit (.bool true)], args := [d1, d2] }
  | _ => none }
def frameManyRow : OpenClaim := { program := "ytmccghadgihbpaa", sum := "dd584d5ab2a8582de85cafc66049e9d4c4ef09cfd5e828b1efe87c446d347f72", func := "skiff/skifflaw11.FrameMany", spec := "frameMany", unfollowed := true, recurses := true, apart := false }
def FrameManySaid : Prop := frameManyRow.holds Try.pinned (OpenSpec.ofChange frameManySpec)

/-- ITS FALSE NEIGHBOUR: 'it returns false'. Refute it at one input. -/
def frameManyWrong : ChangeSpec := { name := "frameMany", fn := fun _ => fun
  | [d1, d2] => { results := [.lit (.bool false)], args := [d1, d2] }
  | _ => none }
def FrameManyWrongFalsely : Prop := frameManyRow.holds Try.pinned (OpenSpec.ofChange frameManyWrong)

/-- 'skifflaw11.FrameAcks': WHATEVER THE INPUT: true; the input reads as it did. -/
def frameAcksSpec : ChangeSpec := { name := "frameAcks", fn := fun _ => fun
  | [d1, d2] => { results := [.lit (.bool true)], args := [d1, d2] }
  | _ => none }
def frameAcksRow : OpenClaim := { program := "ytmccghadgihbpaa", sum := "dd584d5ab2a8582de85cafc66049e9d4c4ef09cfd5e828b1efe87c446d347f72", func := "skiff/skifflaw11.FrameAcks", spec := "frameAcks", unfollowed := true, recurses := true, apart := false }
def FrameAcksSaid : Prop := frameAcksRow.holds Try.pinned (OpenSpec.ofChange frameAcksSpec)

/-- ITS FALSE NEIGHBOUR: 'it returns false'. Refute it at one input. -/
def frameAcksWrong : ChangeSpec := { name := "frameAcks", fn := fun _ => fun
  | [d1, d2] => { results := [.lit (.bool false)], args := [d1, d2] }
  | _ => none }
def FrameAcksWrongFalsely : Prop := frameAcksRow.holds Try.pinned (OpenSpec.ofChange frameAcksWrong)

/-- 'skifflaw11.FrameCut': WHATEVER THE INPUT: true; the input reads as it did. -/
def frameCutSpec : ChangeSpec := { name := "frameCut", fn := fun _ => fun
  | [d1, d2] => { results := [.lit (.bool true)], args := [d1, d2] }
  | _ => none }
def frameCutRow : OpenClaim := { program := "ytmccghadgihbpaa", sum := "dd584d5ab2a8582de85cafc66049e9d4c4ef09cfd5e828b1efe87c446d347f72", func := "skiff/skifflaw11.FrameCut", spec := "frameCut", unfollowed := true, recurses := true, apart := false }
def FrameCutSaid : Prop := frameCutRow.holds Try.pinned (OpenSpec.ofChange frameCutSpec)

/-- ITS FALSE NEIGHBOUR: 'it returns false'. Refute it at one input. -/
def frameCutWrong : ChangeSpec := { name := "frameCut", fn := fun _ => fun
  | [d1, d2] => { results := [.lit (.bool false)], args := [d1, d2] }
  | _ => none }
def FrameCutWrongFalsely : Prop := frameCutRow.holds Try.pinned (OpenSpec.ofChange frameCutWrong)

/- THE SECOND FORM. 'bulk': how many values and letters a reading holds, each counted each time it is reached (what is shared counts as often as it is met; a slice's spare places count too). A statement '..UptoSaid' is the law's where the arguments, and the package variables that the reading takes, are together of bulk at most 1048576: NARROWER than '..Said'. Prove '..Said' where nothing that the law and all that it calls make is longer than what came in: it says more and counts as full. Else prove '..UptoSaid'. A law counts once. -/
mutual
def uptoBulk {H : Type} : DataW H → Nat
  | .lit (.string bytes) => bytes.length + 1
  | .lit _ => 1
  | .nil => 1
  | .ptr d => uptoBulk d + 1
  | .slice elems spare => uptoBulkAll elems + uptoBulkAll spare + 1
  | .agg parts => uptoBulkAll parts + 1
  | .iface _ d => uptoBulk d + 1
  | .map entries => uptoBulkEntries entries + 1
  | .held _ => 1
def uptoBulkAll {H : Type} : List (DataW H) → Nat
  | [] => 0
  | d :: r => uptoBulk d + uptoBulkAll r
def uptoBulkEntries {H : Type} : List (Lit × DataW H) → Nat
  | [] => 0
  | x :: r => uptoBulkEntry x + uptoBulkEntries r
def uptoBulkEntry {H : Type} : Lit × DataW H → Nat
  | (.string bytes, d) => bytes.length + uptoBulk d + 1
  | (_, d) => uptoBulk d + 1
 end
def uptoSmall : (H : Type) → List (DataW H) → Bool := fun _ ds => decide (uptoBulkAll ds ≤ 1048576)
def OpenSpec.upto (s : _root_.Go.ChangeSpec) : _root_.Go.OpenSpec := { _root_.Go.OpenSpec.ofChange s with cond := some uptoSmall }

/-- 'skifflaw12.HeadNumbers', WHERE WHAT IT READS IS OF BULK AT MOST 1048576: true; the input reads as it did. -/
def headNumbersUptoRow : OpenClaim := { program := "ytmccghadgihbpaa", sum := "dd584d5ab2a8582de85cafc66049e9d4c4ef09cfd5e828b1efe87c446d347f72", func := "skiff/skifflaw12.HeadNumbers", spec := "headNumbers", apart := false, narrowed := true }
def HeadNumbersUptoSaid : Prop := headNumbersUptoRow.holds Try.pinned (OpenSpec.upto headNumbersSpec)

/-- 'skifflaw12.HeadNear', WHERE WHAT IT READS IS OF BULK AT MOST 1048576: true; the input reads as it did. -/
def headNearUptoRow : OpenClaim := { program := "ytmccghadgihbpaa", sum := "dd584d5ab2a8582de85cafc66049e9d4c4ef09cfd5e828b1efe87c446d347f72", func := "skiff/skifflaw12.HeadNear", spec := "headNear", apart := false, narrowed := true }
def HeadNearUptoSaid : Prop := headNearUptoRow.holds Try.pinned (OpenSpec.upto headNearSpec)

/-- 'skifflaw12.HeadFull', WHERE WHAT IT READS IS OF BULK AT MOST 1048576: true; the input reads as it did. -/
def headFullUptoRow : OpenClaim := { program := "ytmccghadgihbpaa", sum := "dd584d5ab2a8582de85cafc66049e9d4c4ef09cfd5e828b1efe87c446d347f72", func := "skiff/skifflaw12.HeadFull", spec := "headFull", apart := false, narrowed := true }
def HeadFullUptoSaid : Prop := headFullUptoRow.holds Try.pinned (OpenSpec.upto headFullSpec)

/-- 'skifflaw12.HeadPuts', WHERE WHAT IT READS IS OF BULK AT MOST 1048576: true; the input reads as it did. -/
def headPutsUptoRow : OpenClaim := { program := "ytmccghadgihbpaa", sum := "dd584d5ab2a8582de85cafc66049e9d4c4ef09cfd5e828b1efe87c446d347f72", func := "skiff/skifflaw12.HeadPuts", spec := "headPuts", apart := false, narrowed := true }
def HeadPutsUptoSaid : Prop := headPutsUptoRow.holds Try.pinned (OpenSpec.upto headPutsSpec)

/-- 'skifflaw10.VarintPuts', WHERE WHAT IT READS IS OF BULK AT MOST 1048576: true; the input reads as it did. -/
def varintPutsUptoRow : OpenClaim := { program := "ytmccghadgihbpaa", sum := "dd584d5ab2a8582de85cafc66049e9d4c4ef09cfd5e828b1efe87c446d347f72", func := "skiff/skifflaw10.VarintPuts", spec := "varintPuts", apart := false, narrowed := true }
def VarintPutsUptoSaid : Prop := varintPutsUptoRow.holds Try.pinned (OpenSpec.upto varintPutsSpec)

/-- 'skifflaw10.VarintWide', WHERE WHAT IT READS IS OF BULK AT MOST 1048576: true; the input reads as it did. -/
def varintWideUptoRow : OpenClaim := { program := "ytmccghadgihbpaa", sum := "dd584d5ab2a8582de85cafc66049e9d4c4ef09cfd5e828b1efe87c446d347f72", func := "skiff/skifflaw10.VarintWide", spec := "varintWide", apart := false, narrowed := true }
def VarintWideUptoSaid : Prop := varintWideUptoRow.holds Try.pinned (OpenSpec.upto varintWideSpec)

/-- 'skifflaw10.VarintBack', WHERE WHAT IT READS IS OF BULK AT MOST 1048576: true; the input reads as it did. -/
def varintBackUptoRow : OpenClaim := { program := "ytmccghadgihbpaa", sum := "dd584d5ab2a8582de85cafc66049e9d4c4ef09cfd5e828b1efe87c446d347f72", func := "skiff/skifflaw10.VarintBack", spec := "varintBack", apart := false, narrowed := true }
def VarintBackUptoSaid : Prop := varintBackUptoRow.holds Try.pinned (OpenSpec.upto varintBackSpec)

/-- 'skifflaw10.VarintNil', WHERE WHAT IT READS IS OF BULK AT MOST 1048576: true; the input reads as it did. -/
def varintNilUptoRow : OpenClaim := { program := "ytmccghadgihbpaa", sum := "dd584d5ab2a8582de85cafc66049e9d4c4ef09cfd5e828b1efe87c446d347f72", func := "skiff/skifflaw10.VarintNil", spec := "varintNil", apart := false, narrowed := true }
def VarintNilUptoSaid : Prop := varintNilUptoRow.holds Try.pinned (OpenSpec.upto varintNilSpec)

/-- 'skifflaw11.FrameEncodes', WHERE WHAT IT READS IS OF BULK AT MOST 1048576: true; the input reads as it did. -/
def frameEncodesUptoRow : OpenClaim := { program := "ytmccghadgihbpaa", sum := "dd584d5ab2a8582de85cafc66049e9d4c4ef09cfd5e828b1efe87c446d347f72", func := "skiff/skifflaw11.FrameEncodes", spec := "frameEncodes", unfollowed := true, recurses := true, apart := false, narrowed := true }
def FrameEncodesUptoSaid : Prop := frameEncodesUptoRow.holds Try.pinned (OpenSpec.upto frameEncodesSpec)

/-- 'skifflaw12.HeadBack', WHERE WHAT IT READS IS OF BULK AT MOST 1048576: true; the input reads as it did. -/
def headBackUptoRow : OpenClaim := { program := "ytmccghadgihbpaa", sum := "dd584d5ab2a8582de85cafc66049e9d4c4ef09cfd5e828b1efe87c446d347f72", func := "skiff/skifflaw12.HeadBack", spec := "headBack", apart := false, narrowed := true }
def HeadBackUptoSaid : Prop := headBackUptoRow.holds Try.pinned (OpenSpec.upto headBackSpec)

/-- 'skifflaw12.HeadCut', WHERE WHAT IT READS IS OF BULK AT MOST 1048576: true; the input reads as it did. -/
def headCutUptoRow : OpenClaim := { program := "ytmccghadgihbpaa", sum := "dd584d5ab2a8582de85cafc66049e9d4c4ef09cfd5e828b1efe87c446d347f72", func := "skiff/skifflaw12.HeadCut", spec := "headCut", apart := false, narrowed := true }
def HeadCutUptoSaid : Prop := headCutUptoRow.holds Try.pinned (OpenSpec.upto headCutSpec)

/-- 'skifflaw11.FrameBack', WHERE WHAT IT READS IS OF BULK AT MOST 1048576: true; the input reads as it did. -/
def frameBackUptoRow : OpenClaim := { program := "ytmccghadgihbpaa", sum := "dd584d5ab2a8582de85cafc66049e9d4c4ef09cfd5e828b1efe87c446d347f72", func := "skiff/skifflaw11.FrameBack", spec := "frameBack", unfollowed := true, recurses := true, apart := false, narrowed := true }
def FrameBackUptoSaid : Prop := frameBackUptoRow.holds Try.pinned (OpenSpec.upto frameBackSpec)

/-- 'skifflaw11.FrameMany', WHERE WHAT IT READS IS OF BULK AT MOST 1048576: true; the input reads as it did. -/
def frameManyUptoRow : OpenClaim := { program := "ytmccghadgihbpaa", sum := "dd584d5ab2a8582de85cafc66049e9d4c4ef09cfd5e828b1efe87c446d347f72", func := "skiff/skifflaw11.FrameMany", spec := "frameMany", unfollowed := true, recurses := true, apart := false, narrowed := true }
def FrameManyUptoSaid : Prop := frameManyUptoRow.holds Try.pinned (OpenSpec.upto frameManySpec)

/-- 'skifflaw11.FrameAcks', WHERE WHAT IT READS IS OF BULK AT MOST 1048576: true; the input reads as it did. -/
def frameAcksUptoRow : OpenClaim := { program := "ytmccghadgihbpaa", sum := "dd584d5ab2a8582de85cafc66049e9d4c4ef09cfd5e828b1efe87c446d347f72", func := "skiff/skifflaw11.FrameAcks", spec := "frameAcks", unfollowed := true, recurses := true, apart := false, narrowed := true }
def FrameAcksUptoSaid : Prop := frameAcksUptoRow.holds Try.pinned (OpenSpec.upto frameAcksSpec)

/-- 'skifflaw11.FrameCut', WHERE WHAT IT READS IS OF BULK AT MOST 1048576: true; the input reads as it did. -/
def frameCutUptoRow : OpenClaim := { program := "ytmccghadgihbpaa", sum := "dd584d5ab2a8582de85cafc66049e9d4c4ef09cfd5e828b1efe87c446d347f72", func := "skiff/skifflaw11.FrameCut", spec := "frameCut", unfollowed := true, recurses := true, apart := false, narrowed := true }
def FrameCutUptoSaid : Prop := frameCutUptoRow.holds Try.pinned (OpenSpec.upto frameCutSpec)

end Rows
end Go.Proofs.Ytmccghadgihbpaa
