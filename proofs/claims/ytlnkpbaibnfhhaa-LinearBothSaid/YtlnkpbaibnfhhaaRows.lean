/-
  No cell of these rows narrows 'for every input' (looked for: loops, veiled, ifaces, maps, wideKeys, modest, calm, conditions, laid).
  DERIVED. THE GIVEN ROWS OF THIS SEAT. 7 by the template 'for every input the law returns true; each argument reads behind the call as it read before'; 0 by the template 'total and deterministic' (their statements: YtlnkpbaibnfhhaaTotals.lean).
  GIVEN WITH THE SEED: the statements are not yours to turn. If you find one false, say at which input.
  Laid BY PROGRAM, IN A SANDBOX (cutbox-rows.mjs): the forced cells as the released guide's own fill.sh prints them over the translation b87c0b67aaa25796… (all of the seat's roots in one cut). By AI agents, Wed Nov 11 2026. No macro, syntax, notation, axiom, sorry.
-/
import Derived.Test.YtlnkpbaibnfhhaaChecked
import GoSem.Claim
import GoSem.ClaimJoined
import GoSem.ClaimMapViews
import Derived.JoinedTies
import Derived.KernelRfl
namespace Go.Proofs.Ytlnkpbaibnfhhaa
/- THE CELL 'sum', in the pinned program and in every row, IS THE sha256 OF THE DUMP (.gsa) THAT YtlnkpbaibnfhhaaProg.lean LOADS. Nothing in Lean hashes anything: it is a label: what it is worth is what the hold of that sum in a sandbox is worth. -/
noncomputable def Try.pinned : Pinned := { name := "ytlnkpbaibnfhhaa", sum := "b87c0b67aaa257960ca61b029cf9183bde19fc715bbabd7fae3c1437041f030f", checked := Try.checked }
namespace Rows
def none {H : Type} : Left H := { results := [], args := [] }

/-- 'spandrellaw06.LinearImages': WHATEVER THE INPUT: true; the input reads as it did. -/
def linearImagesSpec : ChangeSpec := { name := "linearImages", fn := fun _ => fun
  | [d1, d2, d3] => { results := [.lit (.bool true)], args := [d1, d2, d3] }
  | _ => none }
def linearImagesRow : OpenClaim := { program := "ytlnkpbaibnfhhaa", sum := "b87c0b67aaa257960ca61b029cf9183bde19fc715bbabd7fae3c1437041f030f", func := "spandrel/spandrellaw06.LinearImages", spec := "linearImages", unfollowed := true, recurses := true, named := ["math/bits.divideError", "math/bits.overflowError"], apart := false }
def LinearImagesSaid : Prop := linearImagesRow.holds Try.pinned (OpenSpec.ofChange linearImagesSpec)

/-- ITS FALSE NEIGHBOUR: 'it returns false'. Refute it at one input. -/
def linearImagesWrong : ChangeSpec := { name := "linearImages", fn := fun _ => fun
  | [d1, d2, d3] => { results := [.lit (.bool false)], args := [d1, d2, d3] }
  | _ => none }
def LinearImagesWrongFalsely : Prop := linearImagesRow.holds Try.pinned (OpenSpec.ofChange linearImagesWrong)

/-- 'spandrellaw06.LinearWhole': WHATEVER THE INPUT: true; the input reads as it did. -/
def linearWholeSpec : ChangeSpec := { name := "linearWhole", fn := fun _ => fun
  | [d1, d2, d3] => { results := [.lit (.bool true)], args := [d1, d2, d3] }
  | _ => none }
def linearWholeRow : OpenClaim := { program := "ytlnkpbaibnfhhaa", sum := "b87c0b67aaa257960ca61b029cf9183bde19fc715bbabd7fae3c1437041f030f", func := "spandrel/spandrellaw06.LinearWhole", spec := "linearWhole", unfollowed := true, recurses := true, named := ["math/bits.divideError", "math/bits.overflowError"], apart := false }
def LinearWholeSaid : Prop := linearWholeRow.holds Try.pinned (OpenSpec.ofChange linearWholeSpec)

/-- ITS FALSE NEIGHBOUR: 'it returns false'. Refute it at one input. -/
def linearWholeWrong : ChangeSpec := { name := "linearWhole", fn := fun _ => fun
  | [d1, d2, d3] => { results := [.lit (.bool false)], args := [d1, d2, d3] }
  | _ => none }
def LinearWholeWrongFalsely : Prop := linearWholeRow.holds Try.pinned (OpenSpec.ofChange linearWholeWrong)

/-- 'spandrellaw06.LinearBoth': WHATEVER THE INPUT: true; the input reads as it did. -/
def linearBothSpec : ChangeSpec := { name := "linearBoth", fn := fun _ => fun
  | [d1, d2, d3] => { results := [.lit (.bool true)], args := [d1, d2, d3] }
  | _ => none }
def linearBothRow : OpenClaim := { program := "ytlnkpbaibnfhhaa", sum := "b87c0b67aaa257960ca61b029cf9183bde19fc715bbabd7fae3c1437041f030f", func := "spandrel/spandrellaw06.LinearBoth", spec := "linearBoth", unfollowed := true, recurses := true, named := ["math/bits.divideError", "math/bits.overflowError"], apart := false }
def LinearBothSaid : Prop := linearBothRow.holds Try.pinned (OpenSpec.ofChange linearBothSpec)

/-- ITS FALSE NEIGHBOUR: 'it returns false'. Refute it at one input. -/
def linearBothWrong : ChangeSpec := { name := "linearBoth", fn := fun _ => fun
  | [d1, d2, d3] => { results := [.lit (.bool false)], args := [d1, d2, d3] }
  | _ => none }
def LinearBothWrongFalsely : Prop := linearBothRow.holds Try.pinned (OpenSpec.ofChange linearBothWrong)

/-- 'spandrellaw06.LinearAnswers': WHATEVER THE INPUT: true; the input reads as it did. -/
def linearAnswersSpec : ChangeSpec := { name := "linearAnswers", fn := fun _ => fun
  | [d1, d2, d3] => { results := [.lit (.bool true)], args := [d1, d2, d3] }
  | _ => none }
def linearAnswersRow : OpenClaim := { program := "ytlnkpbaibnfhhaa", sum := "b87c0b67aaa257960ca61b029cf9183bde19fc715bbabd7fae3c1437041f030f", func := "spandrel/spandrellaw06.LinearAnswers", spec := "linearAnswers", unfollowed := true, recurses := true, named := ["math/bits.divideError", "math/bits.overflowError"], apart := false }
def LinearAnswersSaid : Prop := linearAnswersRow.holds Try.pinned (OpenSpec.ofChange linearAnswersSpec)

/-- ITS FALSE NEIGHBOUR: 'it returns false'. Refute it at one input. -/
def linearAnswersWrong : ChangeSpec := { name := "linearAnswers", fn := fun _ => fun
  | [d1, d2, d3] => { results := [.lit (.bool false)], args := [d1, d2, d3] }
  | _ => none }
def LinearAnswersWrongFalsely : Prop := linearAnswersRow.holds Try.pinned (OpenSpec.ofChange linearAnswersWrong)

/-- 'spandrellaw06.LinearTalks': WHATEVER THE INPUT: true; the input reads as it did. -/
def linearTalksSpec : ChangeSpec := { name := "linearTalks", fn := fun _ => fun
  | [d1, d2, d3] => { results := [.lit (.bool true)], args := [d1, d2, d3] }
  | _ => none }
def linearTalksRow : OpenClaim := { program := "ytlnkpbaibnfhhaa", sum := "b87c0b67aaa257960ca61b029cf9183bde19fc715bbabd7fae3c1437041f030f", func := "spandrel/spandrellaw06.LinearTalks", spec := "linearTalks", unfollowed := true, recurses := true, named := ["math/bits.divideError", "math/bits.overflowError"], apart := false }
def LinearTalksSaid : Prop := linearTalksRow.holds Try.pinned (OpenSpec.ofChange linearTalksSpec)

/-- ITS FALSE NEIGHBOUR: 'it returns false'. Refute it at one input. -/
def linearTalksWrong : ChangeSpec := { name := "linearTalks", fn := fun _ => fun
  | [d1, d2, d3] => { results := [.lit (.bool false)], args := [d1, d2, d3] }
  | _ => none }
def LinearTalksWrongFalsely : Prop := linearTalksRow.holds Try.pinned (OpenSpec.ofChange linearTalksWrong)

/-- 'spandrellaw06.LinearFakes': WHATEVER THE INPUT: true; the input reads as it did. -/
def linearFakesSpec : ChangeSpec := { name := "linearFakes", fn := fun _ => fun
  | [d1, d2, d3] => { results := [.lit (.bool true)], args := [d1, d2, d3] }
  | _ => none }
def linearFakesRow : OpenClaim := { program := "ytlnkpbaibnfhhaa", sum := "b87c0b67aaa257960ca61b029cf9183bde19fc715bbabd7fae3c1437041f030f", func := "spandrel/spandrellaw06.LinearFakes", spec := "linearFakes", unfollowed := true, recurses := true, named := ["math/bits.divideError", "math/bits.overflowError"], apart := false }
def LinearFakesSaid : Prop := linearFakesRow.holds Try.pinned (OpenSpec.ofChange linearFakesSpec)

/-- ITS FALSE NEIGHBOUR: 'it returns false'. Refute it at one input. -/
def linearFakesWrong : ChangeSpec := { name := "linearFakes", fn := fun _ => fun
  | [d1, d2, d3] => { results := [.lit (.bool false)], args := [d1, d2, d3] }
  | _ => none }
def LinearFakesWrongFalsely : Prop := linearFakesRow.holds Try.pinned (OpenSpec.ofChange linearFakesWrong)

/-- 'spandrellaw06.LinearExtracts': WHATEVER THE INPUT: true; the input reads as it did. -/
def linearExtractsSpec : ChangeSpec := { name := "linearExtracts", fn := fun _ => fun
  | [d1, d2, d3] => { results := [.lit (.bool true)], args := [d1, d2, d3] }
  | _ => none }
def linearExtractsRow : OpenClaim := { program := "ytlnkpbaibnfhhaa", sum := "b87c0b67aaa257960ca61b029cf9183bde19fc715bbabd7fae3c1437041f030f", func := "spandrel/spandrellaw06.LinearExtracts", spec := "linearExtracts", unfollowed := true, recurses := true, named := ["math/bits.divideError", "math/bits.overflowError"], apart := false }
def LinearExtractsSaid : Prop := linearExtractsRow.holds Try.pinned (OpenSpec.ofChange linearExtractsSpec)

/-- ITS FALSE NEIGHBOUR: 'it returns false'. Refute it at one input. -/
def linearExtractsWrong : ChangeSpec := { name := "linearExtracts", fn := fun _ => fun
  | [d1, d2, d3] => { results := [.lit (.bool false)], args := [d1, d2, d3] }
  | _ => none }
def LinearExtractsWrongFalsely : Prop := linearExtractsRow.holds Try.pinned (OpenSpec.ofChange linearExtractsWrong)

/- THE SECOND FORM. 'bulk': how many values and letters a reading holds, each counted each time it is reached (what is shared counts as often as it is met; a slice's spare places count too). A statement '..UptoSaid' is the law's where the arguments, and the package variables that the reading takes, are together of bulk at most 1048576: NARROWER than '..Said'. Prove '..Said' where nothing that the law and all that it calls make is longer than what came in: it says more and counts as full. Else prove '..UptoSaid'. A law counts once. -/
mutual
def uptoBulk {H : Type} : DataW H → Nat
  | .lit (.string bytes) => bytes.length + 1
  | .lit _ => 1
  | .nil => 1
  | .ptr d => uptoBulk d + 1
  | .slice elems spare => uptoBulkAll elems + uptoBulkAll spare + 1
  | .agg parts => uptoBulkAll parts + 1
  | .iface _ d => uptoBulk d + 1
  | .map entries => uptoBulkEntries entries + 1
  | .held _ => 1
def uptoBulkAll {H : Type} : List (DataW H) → Nat
  | [] => 0
  | d :: r => uptoBulk d + uptoBulkAll r
def uptoBulkEntries {H : Type} : List (Lit × DataW H) → Nat
  | [] => 0
  | x :: r => uptoBulkEntry x + uptoBulkEntries r
def uptoBulkEntry {H : Type} : Lit × DataW H → Nat
  | (.string bytes, d) => bytes.length + uptoBulk d + 1
  | (_, d) => uptoBulk d + 1
 end
def uptoSmall : (H : Type) → List (DataW H) → Bool := fun _ ds => decide (uptoBulkAll ds ≤ 1048576)
def OpenSpec.upto (s : _root_.Go.ChangeSpec) : _root_.Go.OpenSpec := { _root_.Go.OpenSpec.ofChange s with cond := some uptoSmall }

/-- 'spandrellaw06.LinearImages', WHERE WHAT IT READS IS OF BULK AT MOST 1048576: true; the input reads as it did. -/
def linearImagesUptoRow : OpenClaim := { program := "ytlnkpbaibnfhhaa", sum := "b87c0b67aaa257960ca61b029cf9183bde19fc715bbabd7fae3c1437041f030f", func := "spandrel/spandrellaw06.LinearImages", spec := "linearImages", unfollowed := true, recurses := true, named := ["math/bits.divideError", "math/bits.overflowError"], apart := false, narrowed := true }
def LinearImagesUptoSaid : Prop := linearImagesUptoRow.holds Try.pinned (OpenSpec.upto linearImagesSpec)

/-- 'spandrellaw06.LinearWhole', WHERE WHAT IT READS IS OF BULK AT MOST 1048576: true; the input reads as it did. -/
def linearWholeUptoRow : OpenClaim := { program := "ytlnkpbaibnfhhaa", sum := "b87c0b67aaa257960ca61b029cf9183bde19fc715bbabd7fae3c1437041f030f", func := "spandrel/spandrellaw06.LinearWhole", spec := "linearWhole", unfollowed := true, recurses := true, named := ["math/bits.divideError", "math/bits.overflowError"], apart := false, narrowed := true }
def LinearWholeUptoSaid : Prop := linearWholeUptoRow.holds Try.pinned (OpenSpec.upto linearWholeSpec)

/-- 'spandrellaw06.LinearBoth', WHERE WHAT IT READS IS OF BULK AT MOST 1048576: true; the input reads as it did. -/
def linearBothUptoRow : OpenClaim := { program := "ytlnkpbaibnfhhaa", sum := "b87c0b67aaa257960ca61b029cf9183bde19fc715bbabd7fae3c1437041f030f", func := "spandrel/spandrellaw06.LinearBoth", spec := "linearBoth", unfollowed := true, recurses := true, named := ["math/bits.divideError", "math/bits.overflowError"], apart := false, narrowed := true }
def LinearBothUptoSaid : Prop := linearBothUptoRow.holds Try.pinned (OpenSpec.upto linearBothSpec)

/-- 'spandrellaw06.LinearAnswers', WHERE WHAT IT READS IS OF BULK AT MOST 1048576: true; the input reads as it did. -/
def linearAnswersUptoRow : OpenClaim := { program := "ytlnkpbaibnfhhaa", sum := "b87c0b67aaa257960ca61b029cf9183bde19fc715bbabd7fae3c1437041f030f", func := "spandrel/spandrellaw06.LinearAnswers", spec := "linearAnswers", unfollowed := true, recurses := true, named := ["math/bits.divideError", "math/bits.overflowError"], apart := false, narrowed := true }
def LinearAnswersUptoSaid : Prop := linearAnswersUptoRow.holds Try.pinned (OpenSpec.upto linearAnswersSpec)

/-- 'spandrellaw06.LinearTalks', WHERE WHAT IT READS IS OF BULK AT MOST 1048576: true; the input reads as it did. -/
def linearTalksUptoRow : OpenClaim := { program := "ytlnkpbaibnfhhaa", sum := "b87c0b67aaa257960ca61b029cf9183bde19fc715bbabd7fae3c1437041f030f", func := "spandrel/spandrellaw06.LinearTalks", spec := "linearTalks", unfollowed := true, recurses := true, named := ["math/bits.divideError", "math/bits.overflowError"], apart := false, narrowed := true }
def LinearTalksUptoSaid : Prop := linearTalksUptoRow.holds Try.pinned (OpenSpec.upto linearTalksSpec)

/-- 'spandrellaw06.LinearFakes', WHERE WHAT IT READS IS OF BULK AT MOST 1048576: true; the input reads as it did. -/
def linearFakesUptoRow : OpenClaim := { program := "ytlnkpbaibnfhhaa", sum := "b87c0b67aaa257960ca61b029cf9183bde19fc715bbabd7fae3c1437041f030f", func := "spandrel/spandrellaw06.LinearFakes", spec := "linearFakes", unfollowed := true, recurses := true, named := ["math/bits.divideError", "math/bits.overflowError"], apart := false, narrowed := true }
def LinearFakesUptoSaid : Prop := linearFakesUptoRow.holds Try.pinned (OpenSpec.upto linearFakesSpec)

/-- 'spandrellaw06.LinearExtracts', WHERE WHAT IT READS IS OF BULK AT MOST 1048576: true; the input reads as it did. -/
def linearExtractsUptoRow : OpenClaim := { program := "ytlnkpbaibnfhhaa", sum := "b87c0b67aaa257960ca61b029cf9183bde19fc715bbabd7fae3c1437041f030f", func := "spandrel/spandrellaw06.LinearExtracts", spec := "linearExtracts", unfollowed := true, recurses := true, named := ["math/bits.divideError", "math/bits.overflowError"], apart := false, narrowed := true }
def LinearExtractsUptoSaid : Prop := linearExtractsUptoRow.holds Try.pinned (OpenSpec.upto linearExtractsSpec)

end Rows
end Go.Proofs.Ytlnkpbaibnfhhaa
