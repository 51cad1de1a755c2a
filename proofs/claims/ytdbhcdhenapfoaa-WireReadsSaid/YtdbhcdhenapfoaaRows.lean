/-
  No cell of these rows narrows 'for every input' (looked for: loops, veiled, ifaces, maps, wideKeys, modest, calm, conditions, laid).
  DERIVED. THE GIVEN ROWS OF THIS SEAT. 5 by the template 'for every input the law returns true; each argument reads behind the call as it read before'; 0 by the template 'total and deterministic' (their statements: YtdbhcdhenapfoaaTotals.lean).
  GIVEN WITH THE SEED: the statements are not yours to turn. If you find one false, say at which input.
  Laid BY PROGRAM, IN A SANDBOX (cutbox-rows.mjs): the forced cells as the released guide's own fill.sh prints them over the translation 8aff2979bc000172… (all of the seat's roots in one cut). By AI agents, Wed Nov 11 2026. No macro, syntax, notation, axiom, sorry.
-/
import Derived.Test.YtdbhcdhenapfoaaChecked
import GoSem.Claim
import GoSem.ClaimJoined
import GoSem.ClaimMapViews
import Derived.JoinedTies
import Derived.KernelRfl
namespace Go.Proofs.Ytdbhcdhenapfoaa
/- THE CELL 'sum', in the pinned program and in every row, IS THE sha256 OF THE DUMP (.gsa) THAT YtdbhcdhenapfoaaProg.lean LOADS. Nothing in Lean hashes anything: it is a label: what it is worth is what the hold of that sum in a sandbox is worth. -/
noncomputable def Try.pinned : Pinned := { name := "ytdbhcdhenapfoaa", sum := "8aff2979bc0001724310cd46ac7aeb700660a726886d52aa9005d172f330dd02", checked := Try.checked }
namespace Rows
def none {H : Type} : Left H := { results := [], args := [] }

/-- 'spandrellaw10.WireMixings': WHATEVER THE INPUT: true; the input reads as it did. -/
def wireMixingsSpec : ChangeSpec := { name := "wireMixings", fn := fun _ => fun
  | [d] => { results := [.lit (.bool true)], args := [d] }
  | _ => none }
def wireMixingsRow : OpenClaim := { program := "ytdbhcdhenapfoaa", sum := "8aff2979bc0001724310cd46ac7aeb700660a726886d52aa9005d172f330dd02", func := "spandrel/spandrellaw10.WireMixings", spec := "wireMixings", unfollowed := true, recurses := true, apart := false }
def WireMixingsSaid : Prop := wireMixingsRow.holds Try.pinned (OpenSpec.ofChange wireMixingsSpec)

/-- ITS FALSE NEIGHBOUR: 'it returns false'. Refute it at one input. -/
def wireMixingsWrong : ChangeSpec := { name := "wireMixings", fn := fun _ => fun
  | [d] => { results := [.lit (.bool false)], args := [d] }
  | _ => none }
def WireMixingsWrongFalsely : Prop := wireMixingsRow.holds Try.pinned (OpenSpec.ofChange wireMixingsWrong)

/-- 'spandrellaw10.WireLetters': WHATEVER THE INPUT: true; the input reads as it did. -/
def wireLettersSpec : ChangeSpec := { name := "wireLetters", fn := fun _ => fun
  | [d] => { results := [.lit (.bool true)], args := [d] }
  | _ => none }
def wireLettersRow : OpenClaim := { program := "ytdbhcdhenapfoaa", sum := "8aff2979bc0001724310cd46ac7aeb700660a726886d52aa9005d172f330dd02", func := "spandrel/spandrellaw10.WireLetters", spec := "wireLetters", unfollowed := true, recurses := true, apart := false }
def WireLettersSaid : Prop := wireLettersRow.holds Try.pinned (OpenSpec.ofChange wireLettersSpec)

/-- ITS FALSE NEIGHBOUR: 'it returns false'. Refute it at one input. -/
def wireLettersWrong : ChangeSpec := { name := "wireLetters", fn := fun _ => fun
  | [d] => { results := [.lit (.bool false)], args := [d] }
  | _ => none }
def WireLettersWrongFalsely : Prop := wireLettersRow.holds Try.pinned (OpenSpec.ofChange wireLettersWrong)

/-- 'spandrellaw10.WireKinds': WHATEVER THE INPUT: true; the input reads as it did. -/
def wireKindsSpec : ChangeSpec := { name := "wireKinds", fn := fun _ => fun
  | [d1, d2] => { results := [.lit (.bool true)], args := [d1, d2] }
  | _ => none }
def wireKindsRow : OpenClaim := { program := "ytdbhcdhenapfoaa", sum := "8aff2979bc0001724310cd46ac7aeb700660a726886d52aa9005d172f330dd02", func := "spandrel/spandrellaw10.WireKinds", spec := "wireKinds", unfollowed := true, recurses := true, apart := false }
def WireKindsSaid : Prop := wireKindsRow.holds Try.pinned (OpenSpec.ofChange wireKindsSpec)

/-- ITS FALSE NEIGHBOUR: 'it returns false'. Refute it at one input. -/
def wireKindsWrong : ChangeSpec := { name := "wireKinds", fn := fun _ => fun
  | [d1, d2] => { results := [.lit (.bool false)], args := [d1, d2] }
  | _ => none }
def WireKindsWrongFalsely : Prop := wireKindsRow.holds Try.pinned (OpenSpec.ofChange wireKindsWrong)

/-- 'spandrellaw10.WirePassed': WHATEVER THE INPUT: true; the input reads as it did. -/
def wirePassedSpec : ChangeSpec := { name := "wirePassed", fn := fun _ => fun
  | [d] => { results := [.lit (.bool true)], args := [d] }
  | _ => none }
def wirePassedRow : OpenClaim := { program := "ytdbhcdhenapfoaa", sum := "8aff2979bc0001724310cd46ac7aeb700660a726886d52aa9005d172f330dd02", func := "spandrel/spandrellaw10.WirePassed", spec := "wirePassed", unfollowed := true, recurses := true, apart := false }
def WirePassedSaid : Prop := wirePassedRow.holds Try.pinned (OpenSpec.ofChange wirePassedSpec)

/-- ITS FALSE NEIGHBOUR: 'it returns false'. Refute it at one input. -/
def wirePassedWrong : ChangeSpec := { name := "wirePassed", fn := fun _ => fun
  | [d] => { results := [.lit (.bool false)], args := [d] }
  | _ => none }
def WirePassedWrongFalsely : Prop := wirePassedRow.holds Try.pinned (OpenSpec.ofChange wirePassedWrong)

/-- 'spandrellaw10.WireReads': WHATEVER THE INPUT: true; the input reads as it did. -/
def wireReadsSpec : ChangeSpec := { name := "wireReads", fn := fun _ => fun
  | [d] => { results := [.lit (.bool true)], args := [d] }
  | _ => none }
def wireReadsRow : OpenClaim := { program := "ytdbhcdhenapfoaa", sum := "8aff2979bc0001724310cd46ac7aeb700660a726886d52aa9005d172f330dd02", func := "spandrel/spandrellaw10.WireReads", spec := "wireReads", unfollowed := true, recurses := true, apart := false }
def WireReadsSaid : Prop := wireReadsRow.holds Try.pinned (OpenSpec.ofChange wireReadsSpec)

/-- ITS FALSE NEIGHBOUR: 'it returns false'. Refute it at one input. -/
def wireReadsWrong : ChangeSpec := { name := "wireReads", fn := fun _ => fun
  | [d] => { results := [.lit (.bool false)], args := [d] }
  | _ => none }
def WireReadsWrongFalsely : Prop := wireReadsRow.holds Try.pinned (OpenSpec.ofChange wireReadsWrong)

/- THE SECOND FORM. 'bulk': how many values and letters a reading holds, each counted each time it is reached (what is shared counts as often as it is met; a slice's spare places count too). A statement '..UptoSaid' is the law's where the arguments, and the package variables that the reading takes, are together of bulk at most 1048576: NARROWER than '..Said'. Prove '..Said' where nothing that the law and all that it calls make is longer than what came in: it says more and counts as full. Else prove '..UptoSaid'. A law counts once. -/
mutual
def uptoBulk {H : Type} : DataW H → Nat
  | .lit (.string bytes) => bytes.length + 1
  | .lit _ => 1
  | .nil => 1
  | .ptr d => uptoBulk d + 1
  | .slice elems spare => uptoBulkAll elems + uptoBulkAll spare + 1
  | .agg parts => uptoBulkAll parts + 1
  | .iface _ d => uptoBulk d + 1
  | .map entries => uptoBulkEntries entries + 1
  | .held _ => 1
def uptoBulkAll {H : Type} : List (DataW H) → Nat
  | [] => 0
  | d :: r => uptoBulk d + uptoBulkAll r
def uptoBulkEntries {H : Type} : List (Lit × DataW H) → Nat
  | [] => 0
  | x :: r => uptoBulkEntry x + uptoBulkEntries r
def uptoBulkEntry {H : Type} : Lit × DataW H → Nat
  | (.string bytes, d) => bytes.length + uptoBulk d + 1
  | (_, d) => uptoBulk d + 1
 end
def uptoSmall : (H : Type) → List (DataW H) → Bool := fun _ ds => decide (uptoBulkAll ds ≤ 1048576)
def OpenSpec.upto (s : _root_.Go.ChangeSpec) : _root_.Go.OpenSpec := { _root_.Go.OpenSpec.ofChange s with cond := some uptoSmall }

/-- 'spandrellaw10.WireMixings', WHERE WHAT IT READS IS OF BULK AT MOST 1048576: true; the input reads as it did. -/
def wireMixingsUptoRow : OpenClaim := { program := "ytdbhcdhenapfoaa", sum := "8aff2979bc0001724310cd46ac7aeb700660a726886d52aa9005d172f330dd02", func := "spandrel/spandrellaw10.WireMixings", spec := "wireMixings", unfollowed := true, recurses := true, apart := false, narrowed := true }
def WireMixingsUptoSaid : Prop := wireMixingsUptoRow.holds Try.pinned (OpenSpec.upto wireMixingsSpec)

/-- 'spandrellaw10.WireLetters', WHERE WHAT IT READS IS OF BULK AT MOST 1048576: true; the input reads as it did. -/
def wireLettersUptoRow : OpenClaim := { program := "ytdbhcdhenapfoaa", sum := "8aff2979bc0001724310cd46ac7aeb700660a726886d52aa9005d172f330dd02", func := "spandrel/spandrellaw10.WireLetters", spec := "wireLetters", unfollowed := true, recurses := true, apart := false, narrowed := true }
def WireLettersUptoSaid : Prop := wireLettersUptoRow.holds Try.pinned (OpenSpec.upto wireLettersSpec)

/-- 'spandrellaw10.WireKinds', WHERE WHAT IT READS IS OF BULK AT MOST 1048576: true; the input reads as it did. -/
def wireKindsUptoRow : OpenClaim := { program := "ytdbhcdhenapfoaa", sum := "8aff2979bc0001724310cd46ac7aeb700660a726886d52aa9005d172f330dd02", func := "spandrel/spandrellaw10.WireKinds", spec := "wireKinds", unfollowed := true, recurses := true, apart := false, narrowed := true }
def WireKindsUptoSaid : Prop := wireKindsUptoRow.holds Try.pinned (OpenSpec.upto wireKindsSpec)

/-- 'spandrellaw10.WirePassed', WHERE WHAT IT READS IS OF BULK AT MOST 1048576: true; the input reads as it did. -/
def wirePassedUptoRow : OpenClaim := { program := "ytdbhcdhenapfoaa", sum := "8aff2979bc0001724310cd46ac7aeb700660a726886d52aa9005d172f330dd02", func := "spandrel/spandrellaw10.WirePassed", spec := "wirePassed", unfollowed := true, recurses := true, apart := false, narrowed := true }
def WirePassedUptoSaid : Prop := wirePassedUptoRow.holds Try.pinned (OpenSpec.upto wirePassedSpec)

/-- 'spandrellaw10.WireReads', WHERE WHAT IT READS IS OF BULK AT MOST 1048576: true; the input reads as it did. -/
def wireReadsUptoRow : OpenClaim := { program := "ytdbhcdhenapfoaa", sum := "8aff2979bc0001724310cd46ac7aeb700660a726886d52aa9005d172f330dd02", func := "spandrel/spandrellaw10.WireReads", spec := "wireReads", unfollowed := true, recurses := true, apart := false, narrowed := true }
def WireReadsUptoSaid : Prop := wireReadsUptoRow.holds Try.pinned (OpenSpec.upto wireReadsSpec)

end Rows
end Go.Proofs.Ytdbhcdhenapfoaa
