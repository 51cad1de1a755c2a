/-
  No cell of these rows narrows 'for every input' (looked for: loops, veiled, ifaces, maps, wideKeys, modest, calm, conditions, laid).
  DERIVED. THE GIVEN ROWS OF THIS SEAT. 6 by the template 'for every input the law returns true; each argument reads behind the call as it read before'; 0 by the template 'total and deterministic' (their statements: YtfoncfojljmimaaTotals.lean).
  GIVEN WITH THE SEED: the statements are not yours to turn. If you find one false, say at which input.
  Laid BY PROGRAM, IN A SANDBOX (cutbox-rows.mjs): the forced cells as the released guide's own fill.sh prints them over the translation 4d6bf7e6a0571709… (all of the seat's roots in one cut). By AI agents, Wed Nov 11 2026. No macro, syntax, notation, axiom, sorry.
-/
import Derived.Test.YtfoncfojljmimaaChecked
import GoSem.Claim
import GoSem.ClaimJoined
import GoSem.ClaimMapViews
import Derived.JoinedTies
import Derived.KernelRfl
namespace Go.Proofs.Ytfoncfojljmimaa
/- THE CELL 'sum', in the pinned program and in every row, IS THE sha256 OF THE DUMP (.gsa) THAT YtfoncfojljmimaaProg.lean LOADS. Nothing in Lean hashes anything: it is a label: what it is worth is what the hold of that sum in a sandbox is worth. -/
noncomputable def Try.pinned : Pinned := { name := "ytfoncfojljmimaa", sum := "4d6bf7e6a057170992681718d86018a22036879a9dd3b47bdbceb729f056a89b", checked := Try.checked }
namespace Rows
def none {H : Type} : Left H := { results := [], args := [] }

/-- 'spandrellaw05.GamalTimes': WHATEVER THE INPUT: true; the input reads as it did. -/
def gamalTimesSpec : ChangeSpec := { name := "gamalTimes", fn := fun _ => fun
  | [d1, d2, d3] => { results := [.lit (.bool true)], args := [d1, d2, d3] }
  | _ => none }
def gamalTimesRow : OpenClaim := { program := "ytfoncfojljmimaa", sum := "4d6bf7e6a057170992681718d86018a22036879a9dd3b47bdbceb729f056a89b", func := "spandrel/spandrellaw05.GamalTimes", spec := "gamalTimes", unfollowed := true, recurses := true, named := ["math/bits.divideError", "math/bits.overflowError"], apart := false }
def GamalTimesSaid : Prop := gamalTimesRow.holds Try.pinned (OpenSpec.ofChange gamalTimesSpec)

/-- ITS FALSE NEIGHBOUR: 'it returns false'. Refute it at one input. -/
def gamalTimesWrong : ChangeSpec := { name := "gamalTimes", fn := fun _ => fun
  | [d1, d2, d3] => { results := [.lit (.bool false)], args := [d1, d2, d3] }
  | _ => none }
def GamalTimesWrongFalsely : Prop := gamalTimesRow.holds Try.pinned (OpenSpec.ofChange gamalTimesWrong)

/-- 'spandrellaw05.GamalSeals': WHATEVER THE INPUT: true; the input reads as it did. -/
def gamalSealsSpec : ChangeSpec := { name := "gamalSeals", fn := fun _ => fun
  | [d1, d2, d3] => { results := [.lit (.bool true)], args := [d1, d2, d3] }
  | _ => none }
def gamalSealsRow : OpenClaim := { program := "ytfoncfojljmimaa", sum := "4d6bf7e6a057170992681718d86018a22036879a9dd3b47bdbceb729f056a89b", func := "spandrel/spandrellaw05.GamalSeals", spec := "gamalSeals", named := ["math/bits.divideError", "math/bits.overflowError"], apart := false }
def GamalSealsSaid : Prop := gamalSealsRow.holds Try.pinned (OpenSpec.ofChange gamalSealsSpec)

/-- ITS FALSE NEIGHBOUR: 'it returns false'. Refute it at one input. -/
def gamalSealsWrong : ChangeSpec := { name := "gamalSeals", fn := fun _ => fun
  | [d1, d2, d3] => { results := [.lit (.bool false)], args := [d1, d2, d3] }
  | _ => none }
def GamalSealsWrongFalsely : Prop := gamalSealsRow.holds Try.pinned (OpenSpec.ofChange gamalSealsWrong)

/-- 'spandrellaw05.GamalAdds': WHATEVER THE INPUT: true; the input reads as it did. -/
def gamalAddsSpec : ChangeSpec := { name := "gamalAdds", fn := fun _ => fun
  | [d1, d2, d3] => { results := [.lit (.bool true)], args := [d1, d2, d3] }
  | _ => none }
def gamalAddsRow : OpenClaim := { program := "ytfoncfojljmimaa", sum := "4d6bf7e6a057170992681718d86018a22036879a9dd3b47bdbceb729f056a89b", func := "spandrel/spandrellaw05.GamalAdds", spec := "gamalAdds", named := ["math/bits.divideError", "math/bits.overflowError"], apart := false }
def GamalAddsSaid : Prop := gamalAddsRow.holds Try.pinned (OpenSpec.ofChange gamalAddsSpec)

/-- ITS FALSE NEIGHBOUR: 'it returns false'. Refute it at one input. -/
def gamalAddsWrong : ChangeSpec := { name := "gamalAdds", fn := fun _ => fun
  | [d1, d2, d3] => { results := [.lit (.bool false)], args := [d1, d2, d3] }
  | _ => none }
def GamalAddsWrongFalsely : Prop := gamalAddsRow.holds Try.pinned (OpenSpec.ofChange gamalAddsWrong)

/-- 'spandrellaw05.GamalOpens': WHATEVER THE INPUT: true; the input reads as it did. -/
def gamalOpensSpec : ChangeSpec := { name := "gamalOpens", fn := fun _ => fun
  | [d1, d2, d3] => { results := [.lit (.bool true)], args := [d1, d2, d3] }
  | _ => none }
def gamalOpensRow : OpenClaim := { program := "ytfoncfojljmimaa", sum := "4d6bf7e6a057170992681718d86018a22036879a9dd3b47bdbceb729f056a89b", func := "spandrel/spandrellaw05.GamalOpens", spec := "gamalOpens", named := ["math/bits.divideError", "math/bits.overflowError"], apart := false }
def GamalOpensSaid : Prop := gamalOpensRow.holds Try.pinned (OpenSpec.ofChange gamalOpensSpec)

/-- ITS FALSE NEIGHBOUR: 'it returns false'. Refute it at one input. -/
def gamalOpensWrong : ChangeSpec := { name := "gamalOpens", fn := fun _ => fun
  | [d1, d2, d3] => { results := [.lit (.bool false)], args := [d1, d2, d3] }
  | _ => none }
def GamalOpensWrongFalsely : Prop := gamalOpensRow.holds Try.pinned (OpenSpec.ofChange gamalOpensWrong)

/-- 'spandrellaw05.GamalCrosses': WHATEVER THE INPUT: true; the input reads as it did. -/
def gamalCrossesSpec : ChangeSpec := { name := "gamalCrosses", fn := fun _ => fun
  | [d1, d2, d3] => { results := [.lit (.bool true)], args := [d1, d2, d3] }
  | _ => none }
def gamalCrossesRow : OpenClaim := { program := "ytfoncfojljmimaa", sum := "4d6bf7e6a057170992681718d86018a22036879a9dd3b47bdbceb729f056a89b", func := "spandrel/spandrellaw05.GamalCrosses", spec := "gamalCrosses", named := ["math/bits.divideError", "math/bits.overflowError"], apart := false }
def GamalCrossesSaid : Prop := gamalCrossesRow.holds Try.pinned (OpenSpec.ofChange gamalCrossesSpec)

/-- ITS FALSE NEIGHBOUR: 'it returns false'. Refute it at one input. -/
def gamalCrossesWrong : ChangeSpec := { name := "gamalCrosses", fn := fun _ => fun
  | [d1, d2, d3] => { results := [.lit (.bool false)], args := [d1, d2, d3] }
  | _ => none }
def GamalCrossesWrongFalsely : Prop := gamalCrossesRow.holds Try.pinned (OpenSpec.ofChange gamalCrossesWrong)

/-- 'spandrellaw05.GamalOver': WHATEVER THE INPUT: true; the input reads as it did. -/
def gamalOverSpec : ChangeSpec := { name := "gamalOver", fn := fun _ => fun
  | [d1, d2, d3] => { results := [.lit (.bool true)], args := [d1, d2, d3] }
  | _ => none }
def gamalOverRow : OpenClaim := { program := "ytfoncfojljmimaa", sum := "4d6bf7e6a057170992681718d86018a22036879a9dd3b47bdbceb729f056a89b", func := "spandrel/spandrellaw05.GamalOver", spec := "gamalOver", named := ["math/bits.divideError", "math/bits.overflowError"], apart := false }
def GamalOverSaid : Prop := gamalOverRow.holds Try.pinned (OpenSpec.ofChange gamalOverSpec)

/-- ITS FALSE NEIGHBOUR: 'it returns false'. Refute it at one input. -/
def gamalOverWrong : ChangeSpec := { name := "gamalOver", fn := fun _ => fun
  | [d1, d2, d3] => { results := [.lit (.bool false)], args := [d1, d2, d3] }
  | _ => none }
def GamalOverWrongFalsely : Prop := gamalOverRow.holds Try.pinned (OpenSpec.ofChange gamalOverWrong)

/- THE SECOND FORM. 'bulk': how many values and letters a reading holds, each counted each time it is reached (what is shared counts as often as it is met; a slice's spare places count too). A statement '..UptoSaid' is the law's where the arguments, and the package variables that the reading takes, are together of bulk at most 1048576: NARROWER than '..Said'. Prove '..Said' where nothing that the law and all that it calls make is longer than what came in: it says more and counts as full. Else prove '..UptoSaid'. A law counts once. -/
mutual
def uptoBulk {H : Type} : DataW H → Nat
  | .lit (.string bytes) => bytes.length + 1
  | .lit _ => 1
  | .nil => 1
  | .ptr d => uptoBulk d + 1
  | .slice elems spare => uptoBulkAll elems + uptoBulkAll spare + 1
  | .agg parts => uptoBulkAll parts + 1
  | .iface _ d => uptoBulk d + 1
  | .map entries => uptoBulkEntries entries + 1
  | .held _ => 1
def uptoBulkAll {H : Type} : List (DataW H) → Nat
  | [] => 0
  | d :: r => uptoBulk d + uptoBulkAll r
def uptoBulkEntries {H : Type} : List (Lit × DataW H) → Nat
  | [] => 0
  | x :: r => uptoBulkEntry x + uptoBulkEntries r
def uptoBulkEntry {H : Type} : Lit × DataW H → Nat
  | (.string bytes, d) => bytes.length + uptoBulk d + 1
  | (_, d) => uptoBulk d + 1
 end
def uptoSmall : (H : Type) → List (DataW H) → Bool := fun _ ds => decide (uptoBulkAll ds ≤ 1048576)
def OpenSpec.upto (s : _root_.Go.ChangeSpec) : _root_.Go.OpenSpec := { _root_.Go.OpenSpec.ofChange s with cond := some uptoSmall }

/-- 'spandrellaw05.GamalTimes', WHERE WHAT IT READS IS OF BULK AT MOST 1048576: true; the input reads as it did. -/
def gamalTimesUptoRow : OpenClaim := { program := "ytfoncfojljmimaa", sum := "4d6bf7e6a057170992681718d86018a22036879a9dd3b47bdbceb729f056a89b", func := "spandrel/spandrellaw05.GamalTimes", spec := "gamalTimes", unfollowed := true, recurses := true, named := ["math/bits.divideError", "math/bits.overflowError"], apart := false, narrowed := true }
def GamalTimesUptoSaid : Prop := gamalTimesUptoRow.holds Try.pinned (OpenSpec.upto gamalTimesSpec)

/-- 'spandrellaw05.GamalSeals', WHERE WHAT IT READS IS OF BULK AT MOST 1048576: true; the input reads as it did. -/
def gamalSealsUptoRow : OpenClaim := { program := "ytfoncfojljmimaa", sum := "4d6bf7e6a057170992681718d86018a22036879a9dd3b47bdbceb729f056a89b", func := "spandrel/spandrellaw05.GamalSeals", spec := "gamalSeals", named := ["math/bits.divideError", "math/bits.overflowError"], apart := false, narrowed := true }
def GamalSealsUptoSaid : Prop := gamalSealsUptoRow.holds Try.pinned (OpenSpec.upto gamalSealsSpec)

/-- 'spandrellaw05.GamalAdds', WHERE WHAT IT READS IS OF BULK AT MOST 1048576: true; the input reads as it did. -/
def gamalAddsUptoRow : OpenClaim := { program := "ytfoncfojljmimaa", sum := "4d6bf7e6a057170992681718d86018a22036879a9dd3b47bdbceb729f056a89b", func := "spandrel/spandrellaw05.GamalAdds", spec := "gamalAdds", named := ["math/bits.divideError", "math/bits.overflowError"], apart := false, narrowed := true }
def GamalAddsUptoSaid : Prop := gamalAddsUptoRow.holds Try.pinned (OpenSpec.upto gamalAddsSpec)

/-- 'spandrellaw05.GamalOpens', WHERE WHAT IT READS IS OF BULK AT MOST 1048576: true; the input reads as it did. -/
def gamalOpensUptoRow : OpenClaim := { program := "ytfoncfojljmimaa", sum := "4d6bf7e6a057170992681718d86018a22036879a9dd3b47bdbceb729f056a89b", func := "spandrel/spandrellaw05.GamalOpens", spec := "gamalOpens", named := ["math/bits.divideError", "math/bits.overflowError"], apart := false, narrowed := true }
def GamalOpensUptoSaid : Prop := gamalOpensUptoRow.holds Try.pinned (OpenSpec.upto gamalOpensSpec)

/-- 'spandrellaw05.GamalCrosses', WHERE WHAT IT READS IS OF BULK AT MOST 1048576: true; the input reads as it did. -/
def gamalCrossesUptoRow : OpenClaim := { program := "ytfoncfojljmimaa", sum := "4d6bf7e6a057170992681718d86018a22036879a9dd3b47bdbceb729f056a89b", func := "spandrel/spandrellaw05.GamalCrosses", spec := "gamalCrosses", named := ["math/bits.divideError", "math/bits.overflowError"], apart := false, narrowed := true }
def GamalCrossesUptoSaid : Prop := gamalCrossesUptoRow.holds Try.pinned (OpenSpec.upto gamalCrossesSpec)

/-- 'spandrellaw05.GamalOver', WHERE WHAT IT READS IS OF BULK AT MOST 1048576: true; the input reads as it did. -/
def gamalOverUptoRow : OpenClaim := { program := "ytfoncfojljmimaa", sum := "4d6bf7e6a057170992681718d86018a22036879a9dd3b47bdbceb729f056a89b", func := "spandrel/spandrellaw05.GamalOver", spec := "gamalOver", named := ["math/bits.divideError", "math/bits.overflowError"], apart := false, narrowed := true }
def GamalOverUptoSaid : Prop := gamalOverUptoRow.holds Try.pinned (OpenSpec.upto gamalOverSpec)

end Rows
end Go.Proofs.Ytfoncfojljmimaa
