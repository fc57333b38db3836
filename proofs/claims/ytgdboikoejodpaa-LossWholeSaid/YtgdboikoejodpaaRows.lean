/-
  No cell of these rows narrows 'for every input' (looked for: loops, veiled, ifaces, maps, wideKeys, modest, calm, conditions, laid).
  DERIVED. THE GIVEN ROWS OF THIS SEAT. 7 by the template 'for every input the law returns true; each argument reads behind the call as it read before'; 0 by the template 'total and deterministic' (their statements: YtgdboikoejodpaaTotals.lean).
  GIVEN WITH THE SEED: the statements are not yours to turn. If you find one false, say at which input.
  Laid BY PROGRAM, IN A SANDBOX (cutbox-rows.mjs): the forced cells as the released guide's own fill.sh prints them over the translation 8d5e625dbda96d79… (all of the seat's roots in one cut). By AI agents, Wed Nov 11 2026. No macro, syntax, notation, axiom, sorry.
-/
import Derived.Test.YtgdboikoejodpaaChecked
import GoSem.Claim
import GoSem.ClaimJoined
import GoSem.ClaimMapViews
import Derived.JoinedTies
import Derived.KernelRfl
namespace Go.Proofs.Ytgdboikoejodpaa
/- THE CELL 'sum', in the pinned program and in every row, IS THE sha256 OF THE DUMP (.gsa) THAT YtgdboikoejodpaaProg.lean LOADS. Nothing in Lean hashes anything: it is a label: what it is worth is what the hold of that sum in a sandbox is worth. -/
noncomputable def Try.pinned : Pinned := { name := "ytgdboikoejodpaa", sum := "8d5e625dbda96d79c25867d516e03c1d28706d46210154939b6604e4a5c7ff87", checked := Try.checked }
namespace Rows
def none {H : Type} : Left H := { results := [], args := [] }

/-- 'skifflaw18.LossWindow': WHATEVER THE INPUT: true; the input reads as it did. -/
def lossWindowSpec : ChangeSpec := { name := "lossWindow", fn := fun _ => fun
  | [d1, d2] => { results := [.lit (.bool true)], args := [d1, d2] }
  | _ => none }
def lossWindowRow : OpenClaim := { program := "ytgdboikoejodpaa", sum := "8d5e625dbda96d79c25867d516e03c1d28706d46210154939b6604e4a5c7ff87", func := "skiff/skifflaw18.LossWindow", spec := "lossWindow", unfollowed := true, recurses := true, apart := false }
def LossWindowSaid : Prop := lossWindowRow.holds Try.pinned (OpenSpec.ofChange lossWindowSpec)

/-- ITS FALSE NEIGHBOUR: 'it returns false'. Refute it at one input. -/
def lossWindowWrong : ChangeSpec := { name := "lossWindow", fn := fun _ => fun
  | [d1, d2] => { results := [.lit (.bool false)], args := [d1, d2] }
  | _ => none }
def LossWindowWrongFalsely : Prop := lossWindowRow.holds Try.pinned (OpenSpec.ofChange lossWindowWrong)

/-- 'skifflaw18.LossThree': WHATEVER THE INPUT: true; the input reads as it did. -/
def lossThreeSpec : ChangeSpec := { name := "lossThree", fn := fun _ => fun
  | [d1, d2] => { results := [.lit (.bool true)], args := [d1, d2] }
  | _ => none }
def lossThreeRow : OpenClaim := { program := "ytgdboikoejodpaa", sum := "8d5e625dbda96d79c25867d516e03c1d28706d46210154939b6604e4a5c7ff87", func := "skiff/skifflaw18.LossThree", spec := "lossThree", unfollowed := true, recurses := true, apart := false }
def LossThreeSaid : Prop := lossThreeRow.holds Try.pinned (OpenSpec.ofChange lossThreeSpec)

/-- ITS FALSE NEIGHBOUR: 'it returns false'. Refute it at one input. -/
def lossThreeWrong : ChangeSpec := { name := "lossThree", fn := fun _ => fun
  | [d1, d2] => { results := [.lit (.bool false)], args := [d1, d2] }
  | _ => none }
def LossThreeWrongFalsely : Prop := lossThreeRow.holds Try.pinned (OpenSpec.ofChange lossThreeWrong)

/-- 'skifflaw18.LossDrops': WHATEVER THE INPUT: true; the input reads as it did. -/
def lossDropsSpec : ChangeSpec := { name := "lossDrops", fn := fun _ => fun
  | [d1, d2, d3] => { results := [.lit (.bool true)], args := [d1, d2, d3] }
  | _ => none }
def lossDropsRow : OpenClaim := { program := "ytgdboikoejodpaa", sum := "8d5e625dbda96d79c25867d516e03c1d28706d46210154939b6604e4a5c7ff87", func := "skiff/skifflaw18.LossDrops", spec := "lossDrops", unfollowed := true, recurses := true, apart := false }
def LossDropsSaid : Prop := lossDropsRow.holds Try.pinned (OpenSpec.ofChange lossDropsSpec)

/-- ITS FALSE NEIGHBOUR: 'it returns false'. Refute it at one input. -/
def lossDropsWrong : ChangeSpec := { name := "lossDrops", fn := fun _ => fun
  | [d1, d2, d3] => { results := [.lit (.bool false)], args := [d1, d2, d3] }
  | _ => none }
def LossDropsWrongFalsely : Prop := lossDropsRow.holds Try.pinned (OpenSpec.ofChange lossDropsWrong)

/-- 'skifflaw18.LossProbes': WHATEVER THE INPUT: true; the input reads as it did. -/
def lossProbesSpec : ChangeSpec := { name := "lossProbes", fn := fun _ => fun
  | [d1, d2] => { results := [.lit (.bool true)], args := [d1, d2] }
  | _ => none }
def lossProbesRow : OpenClaim := { program := "ytgdboikoejodpaa", sum := "8d5e625dbda96d79c25867d516e03c1d28706d46210154939b6604e4a5c7ff87", func := "skiff/skifflaw18.LossProbes", spec := "lossProbes", unfollowed := true, recurses := true, apart := false }
def LossProbesSaid : Prop := lossProbesRow.holds Try.pinned (OpenSpec.ofChange lossProbesSpec)

/-- ITS FALSE NEIGHBOUR: 'it returns false'. Refute it at one input. -/
def lossProbesWrong : ChangeSpec := { name := "lossProbes", fn := fun _ => fun
  | [d1, d2] => { results := [.lit (.bool false)], args := [d1, d2] }
  | _ => none }
def LossProbesWrongFalsely : Prop := lossProbesRow.holds Try.pinned (OpenSpec.ofChange lossProbesWrong)

/-- 'skifflaw18.LossWhole': WHATEVER THE INPUT: true; the input reads as it did. -/
def lossWholeSpec : ChangeSpec := { name := "lossWhole", fn := fun _ => fun
  | [d] => { results := [.lit (.bool true)], args := [d] }
  | _ => none }
def lossWholeRow : OpenClaim := { program := "ytgdboikoejodpaa", sum := "8d5e625dbda96d79c25867d516e03c1d28706d46210154939b6604e4a5c7ff87", func := "skiff/skifflaw18.LossWhole", spec := "lossWhole", unfollowed := true, recurses := true, apart := false }
def LossWholeSaid : Prop := lossWholeRow.holds Try.pinned (OpenSpec.ofChange lossWholeSpec)

/-- ITS FALSE NEIGHBOUR: 'it returns false'. Refute it at one input. -/
def lossWholeWrong : ChangeSpec := { name := "lossWhole", fn := fun _ => fun
  | [d] => { results := [.lit (.bool false)], args := [d] }
  | _ => none }
def LossWholeWrongFalsely : Prop := lossWholeRow.holds Try.pinned (OpenSpec.ofChange lossWholeWrong)

/-- 'skifflaw18.LossPlays': WHATEVER THE INPUT: true; the input reads as it did. -/
def lossPlaysSpec : ChangeSpec := { name := "lossPlays", fn := fun _ => fun
  | [d] => { results := [.lit (.bool true)], args := [d] }
  | _ => none }
def lossPlaysRow : OpenClaim := { program := "ytgdboikoejodpaa", sum := "8d5e625dbda96d79c25867d516e03c1d28706d46210154939b6604e4a5c7ff87", func := "skiff/skifflaw18.LossPlays", spec := "lossPlays", unfollowed := true, recurses := true, apart := false }
def LossPlaysSaid : Prop := lossPlaysRow.holds Try.pinned (OpenSpec.ofChange lossPlaysSpec)

/-- ITS FALSE NEIGHBOUR: 'it returns false'. Refute it at one input. -/
def lossPlaysWrong : ChangeSpec := { name := "lossPlays", fn := fun _ => fun
  | [d] => { results := [.lit (.bool false)], args := [d] }
  | _ => none }
def LossPlaysWrongFalsely : Prop := lossPlaysRow.holds Try.pinned (OpenSpec.ofChange lossPlaysWrong)

/-- 'skifflaw18.LossNil': WHATEVER THE INPUT: true; the input reads as it did. -/
def lossNilSpec : ChangeSpec := { name := "lossNil", fn := fun _ => fun
  | [d1, d2, d3, d4] => { results := [.lit (.bool true)], args := [d1, d2, d3, d4] }
  | _ => none }
def lossNilRow : OpenClaim := { program := "ytgdboikoejodpaa", sum := "8d5e625dbda96d79c25867d516e03c1d28706d46210154939b6604e4a5c7ff87", func := "skiff/skifflaw18.LossNil", spec := "lossNil", unfollowed := true, recurses := true, apart := false }
def LossNilSaid : Prop := lossNilRow.holds Try.pinned (OpenSpec.ofChange lossNilSpec)

/-- ITS FALSE NEIGHBOUR: 'it returns false'. Refute it at one input. -/
def lossNilWrong : ChangeSpec := { name := "lossNil", fn := fun _ => fun
  | [d1, d2, d3, d4] => { results := [.lit (.bool false)], args := [d1, d2, d3, d4] }
  | _ => none }
def LossNilWrongFalsely : Prop := lossNilRow.holds Try.pinned (OpenSpec.ofChange lossNilWrong)

/- THE SECOND FORM. 'bulk': how many values and letters a reading holds, each counted each time it is reached (what is shared counts as often as it is met; a slice's spare places count too). A statement '..UptoSaid' is the law's where the arguments, and the package variables that the reading takes, are together of bulk at most 1048576: NARROWER than '..Said'. Prove '..Said' where nothing that the law and all that it calls make is longer than what came in: it says more and counts as full. Else prove '..UptoSaid'. A law counts once. -/
mutual
def uptoBulk {H : Type} : DataW H → Nat
  | .lit (.string bytes) => bytes.length + 1
  | .lit _ => 1
  | .nil => 1
  | .ptr d => uptoBulk d + 1
  | .slice elems spare => uptoBulkAll elems + uptoBulkAll spare + 1
  | .agg parts => uptoBulkAll parts + 1
  | .iface _ d => uptoBulk d + 1
  | .map entries => uptoBulkEntries entries + 1
  | .held _ => 1
def uptoBulkAll {H : Type} : List (DataW H) → Nat
  | [] => 0
  | d :: r => uptoBulk d + uptoBulkAll r
def uptoBulkEntries {H : Type} : List (Lit × DataW H) → Nat
  | [] => 0
  | x :: r => uptoBulkEntry x + uptoBulkEntries r
def uptoBulkEntry {H : Type} : Lit × DataW H → Nat
  | (.string bytes, d) => bytes.length + uptoBulk d + 1
  | (_, d) => uptoBulk d + 1
 end
def uptoSmall : (H : Type) → List (DataW H) → Bool := fun _ ds => decide (uptoBulkAll ds ≤ 1048576)
def OpenSpec.upto (s : _root_.Go.ChangeSpec) : _root_.Go.OpenSpec := { _root_.Go.OpenSpec.ofChange s with cond := some uptoSmall }

/-- 'skifflaw18.LossWindow', WHERE WHAT IT READS IS OF BULK AT MOST 1048576: true; the input reads as it did. -/
def lossWindowUptoRow : OpenClaim := { program := "ytgdboikoejodpaa", sum := "8d5e625dbda96d79c25867d516e03c1d28706d46210154939b6604e4a5c7ff87", func := "skiff/skifflaw18.LossWindow", spec := "lossWindow", unfollowed := true, recurses := true, apart := false, narrowed := true }
def LossWindowUptoSaid : Prop := lossWindowUptoRow.holds Try.pinned (OpenSpec.upto lossWindowSpec)

/-- 'skifflaw18.LossThree', WHERE WHAT IT READS IS OF BULK AT MOST 1048576: true; the input reads as it did. -/
def lossThreeUptoRow : OpenClaim := { program := "ytgdboikoejodpaa", sum := "8d5e625dbda96d79c25867d516e03c1d28706d46210154939b6604e4a5c7ff87", func := "skiff/skifflaw18.LossThree", spec := "lossThree", unfollowed := true, recurses := true, apart := false, narrowed := true }
def LossThreeUptoSaid : Prop := lossThreeUptoRow.holds Try.pinned (OpenSpec.upto lossThreeSpec)

/-- 'skifflaw18.LossDrops', WHERE WHAT IT READS IS OF BULK AT MOST 1048576: true; the input reads as it did. -/
def lossDropsUptoRow : OpenClaim := { program := "ytgdboikoejodpaa", sum := "8d5e625dbda96d79c25867d516e03c1d28706d46210154939b6604e4a5c7ff87", func := "skiff/skifflaw18.LossDrops", spec := "lossDrops", unfollowed := true, recurses := true, apart := false, narrowed := true }
def LossDropsUptoSaid : Prop := lossDropsUptoRow.holds Try.pinned (OpenSpec.upto lossDropsSpec)

/-- 'skifflaw18.LossProbes', WHERE WHAT IT READS IS OF BULK AT MOST 1048576: true; the input reads as it did. -/
def lossProbesUptoRow : OpenClaim := { program := "ytgdboikoejodpaa", sum := "8d5e625dbda96d79c25867d516e03c1d28706d46210154939b6604e4a5c7ff87", func := "skiff/skifflaw18.LossProbes", spec := "lossProbes", unfollowed := true, recurses := true, apart := false, narrowed := true }
def LossProbesUptoSaid : Prop := lossProbesUptoRow.holds Try.pinned (OpenSpec.upto lossProbesSpec)

/-- 'skifflaw18.LossWhole', WHERE WHAT IT READS IS OF BULK AT MOST 1048576: true; the input reads as it did. -/
def lossWholeUptoRow : OpenClaim := { program := "ytgdboikoejodpaa", sum := "8d5e625dbda96d79c25867d516e03c1d28706d46210154939b6604e4a5c7ff87", func := "skiff/skifflaw18.LossWhole", spec := "lossWhole", unfollowed := true, recurses := true, apart := false, narrowed := true }
def LossWholeUptoSaid : Prop := lossWholeUptoRow.holds Try.pinned (OpenSpec.upto lossWholeSpec)

/-- 'skifflaw18.LossPlays', WHERE WHAT IT READS IS OF BULK AT MOST 1048576: true; the input reads as it did. -/
def lossPlaysUptoRow : OpenClaim := { program := "ytgdboikoejodpaa", sum := "8d5e625dbda96d79c25867d516e03c1d28706d46210154939b6604e4a5c7ff87", func := "skiff/skifflaw18.LossPlays", spec := "lossPlays", unfollowed := true, recurses := true, apart := false, narrowed := true }
def LossPlaysUptoSaid : Prop := lossPlaysUptoRow.holds Try.pinned (OpenSpec.upto lossPlaysSpec)

/-- 'skifflaw18.LossNil', WHERE WHAT IT READS IS OF BULK AT MOST 1048576: true; the input reads as it did. -/
def lossNilUptoRow : OpenClaim := { program := "ytgdboikoejodpaa", sum := "8d5e625dbda96d79c25867d516e03c1d28706d46210154939b6604e4a5c7ff87", func := "skiff/skifflaw18.LossNil", spec := "lossNil", unfollowed := true, recurses := true, apart := false, narrowed := true }
def LossNilUptoSaid : Prop := lossNilUptoRow.holds Try.pinned (OpenSpec.upto lossNilSpec)

end Rows
end Go.Proofs.Ytgdboikoejodpaa
