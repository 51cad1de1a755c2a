/-
  No cell of these rows narrows 'for every input' (looked for: loops, veiled, ifaces, maps, wideKeys, modest, calm, conditions, laid).
  DERIVED. THE GIVEN ROWS OF THIS SEAT. 3 by the template 'for every input the law returns true; each argument reads behind the call as it read before'; 0 by the template 'total and deterministic' (their statements: YtdinemhodnleeaaTotals.lean).
  GIVEN WITH THE SEED: the statements are not yours to turn. If you find one false, say at which input.
  Laid BY PROGRAM, IN A SANDBOX (cutbox-rows.mjs): the forced cells as the released guide's own fill.sh prints them over the translation 94884281442547ee… (all of the seat's roots in one cut). By AI agents, Wed Nov 11 2026. No macro, syntax, notation, axiom, sorry.
-/
import Derived.Test.YtdinemhodnleeaaChecked
import GoSem.Claim
import GoSem.ClaimJoined
import GoSem.ClaimMapViews
import Derived.JoinedTies
import Derived.KernelRfl
namespace Go.Proofs.Ytdinemhodnleeaa
/- THE CELL 'sum', in the pinned program and in every row, IS THE sha256 OF THE DUMP (.gsa) THAT YtdinemhodnleeaaProg.lean LOADS. Nothing in Lean hashes anything: it is a label: what it is worth is what the hold of that sum in a sandbox is worth. -/
noncomputable def Try.pinned : Pinned := { name := "ytdinemhodnleeaa", sum := "94884281442547ee034fc2326dffb04dd8702cae6f0326596459688535dac0e4", checked := Try.checked }
namespace Rows
def none {H : Type} : Left H := { results := [], args := [] }

/-- 'spandrellaw04.GroupRight': WHATEVER THE INPUT: true; the input reads as it did. -/
def groupRightSpec : ChangeSpec := { name := "groupRight", fn := fun _ => fun
  | [d1, d2] => { results := [.lit (.bool true)], args := [d1, d2] }
  | _ => none }
def groupRightRow : OpenClaim := { program := "ytdinemhodnleeaa", sum := "94884281442547ee034fc2326dffb04dd8702cae6f0326596459688535dac0e4", func := "spandrel/spandrellaw04.GroupRight", spec := "groupRight", named := ["math/bits.divideError", "math/bits.overflowError"], apart := false }
def GroupRightSaid : Prop := groupRightRow.holds Try.pinned (OpenSpec.ofChange groupRightSpec)

/-- ITS FALSE NEIGHBOUR: 'it returns false'. Refute it at one input. -/
def groupRightWrong : ChangeSpec := { name := "groupRight", fn := fun _ => fun
  | [d1, d2] => { results := [.lit (.bool false)], args := [d1, d2] }
  | _ => none }
def GroupRightWrongFalsely : Prop := groupRightRow.holds Try.pinned (OpenSpec.ofChange groupRightWrong)

/-- 'spandrellaw04.GroupLays': WHATEVER THE INPUT: true; the input reads as it did. -/
def groupLaysSpec : ChangeSpec := { name := "groupLays", fn := fun _ => fun
  | [d1, d2] => { results := [.lit (.bool true)], args := [d1, d2] }
  | _ => none }
def groupLaysRow : OpenClaim := { program := "ytdinemhodnleeaa", sum := "94884281442547ee034fc2326dffb04dd8702cae6f0326596459688535dac0e4", func := "spandrel/spandrellaw04.GroupLays", spec := "groupLays", named := ["math/bits.divideError", "math/bits.overflowError"], apart := false }
def GroupLaysSaid : Prop := groupLaysRow.holds Try.pinned (OpenSpec.ofChange groupLaysSpec)

/-- ITS FALSE NEIGHBOUR: 'it returns false'. Refute it at one input. -/
def groupLaysWrong : ChangeSpec := { name := "groupLays", fn := fun _ => fun
  | [d1, d2] => { results := [.lit (.bool false)], args := [d1, d2] }
  | _ => none }
def GroupLaysWrongFalsely : Prop := groupLaysRow.holds Try.pinned (OpenSpec.ofChange groupLaysWrong)

/-- 'spandrellaw04.GroupCounts': WHATEVER THE INPUT: true; the input reads as it did. -/
def groupCountsSpec : ChangeSpec := { name := "groupCounts", fn := fun _ => fun
  | [d] => { results := [.lit (.bool true)], args := [d] }
  | _ => none }
def groupCountsRow : OpenClaim := { program := "ytdinemhodnleeaa", sum := "94884281442547ee034fc2326dffb04dd8702cae6f0326596459688535dac0e4", func := "spandrel/spandrellaw04.GroupCounts", spec := "groupCounts", named := ["math/bits.divideError", "math/bits.overflowError"], apart := false }
def GroupCountsSaid : Prop := groupCountsRow.holds Try.pinned (OpenSpec.ofChange groupCountsSpec)

/-- ITS FALSE NEIGHBOUR: 'it returns false'. Refute it at one input. -/
def groupCountsWrong : ChangeSpec := { name := "groupCounts", fn := fun _ => fun
  | [d] => { results := [.lit (.bool false)], args := [d] }
  | _ => none }
def GroupCountsWrongFalsely : Prop := groupCountsRow.holds Try.pinned (OpenSpec.ofChange groupCountsWrong)

/- THE SECOND FORM. 'bulk': how many values and letters a reading holds, each counted each time it is reached (what is shared counts as often as it is met; a slice's spare places count too). A statement '..UptoSaid' is the law's where the arguments, and the package variables that the reading takes, are together of bulk at most 1048576: NARROWER than '..Said'. Prove '..Said' where nothing that the law and all that it calls make is longer than what came in: it says more and counts as full. Else prove '..UptoSaid'. A law counts once. -/
mutual
def uptoBulk {H : Type} : DataW H → Nat
  | .lit (.string bytes) => bytes.length + 1
  | .lit _ => 1
  | .nil => 1
  | .ptr d => uptoBulk d + 1
  | .slice elems spare => uptoBulkAll elems + uptoBulkAll spare + 1
  | .agg parts => uptoBulkAll parts + 1
  | .iface _ d => uptoBulk d + 1
  | .map entries => uptoBulkEntries entries + 1
  | .held _ => 1
def uptoBulkAll {H : Type} : List (DataW H) → Nat
  | [] => 0
  | d :: r => uptoBulk d + uptoBulkAll r
def uptoBulkEntries {H : Type} : List (Lit × DataW H) → Nat
  | [] => 0
  | x :: r => uptoBulkEntry x + uptoBulkEntries r
def uptoBulkEntry {H : Type} : Lit × DataW H → Nat
  | (.string bytes, d) => bytes.length + uptoBulk d + 1
  | (_, d) => uptoBulk d + 1
 end
def uptoSmall : (H : Type) → List (DataW H) → Bool := fun _ ds => decide (uptoBulkAll ds ≤ 1048576)
def OpenSpec.upto (s : _root_.Go.ChangeSpec) : _root_.Go.OpenSpec := { _root_.Go.OpenSpec.ofChange s with cond := some uptoSmall }

/-- 'spandrellaw04.GroupRight', WHERE WHAT IT READS IS OF BULK AT MOST 1048576: true; the input reads as it did. -/
def groupRightUptoRow : OpenClaim := { program := "ytdinemhodnleeaa", sum := "94884281442547ee034fc2326dffb04dd8702cae6f0326596459688535dac0e4", func := "spandrel/spandrellaw04.GroupRight", spec := "groupRight", named := ["math/bits.divideError", "math/bits.overflowError"], apart := false, narrowed := true }
def GroupRightUptoSaid : Prop := groupRightUptoRow.holds Try.pinned (OpenSpec.upto groupRightSpec)

/-- 'spandrellaw04.GroupLays', WHERE WHAT IT READS IS OF BULK AT MOST 1048576: true; the input reads as it did. -/
def groupLaysUptoRow : OpenClaim := { program := "ytdinemhodnleeaa", sum := "94884281442547ee034fc2326dffb04dd8702cae6f0326596459688535dac0e4", func := "spandrel/spandrellaw04.GroupLays", spec := "groupLays", named := ["math/bits.divideError", "math/bits.overflowError"], apart := false, narrowed := true }
def GroupLaysUptoSaid : Prop := groupLaysUptoRow.holds Try.pinned (OpenSpec.upto groupLaysSpec)

/-- 'spandrellaw04.GroupCounts', WHERE WHAT IT READS IS OF BULK AT MOST 1048576: true; the input reads as it did. -/
def groupCountsUptoRow : OpenClaim := { program := "ytdinemhodnleeaa", sum := "94884281442547ee034fc2326dffb04dd8702cae6f0326596459688535dac0e4", func := "spandrel/spandrellaw04.GroupCounts", spec := "groupCounts", named := ["math/bits.divideError", "math/bits.overflowError"], apart := false, narrowed := true }
def GroupCountsUptoSaid : Prop := groupCountsUptoRow.holds Try.pinned (OpenSpec.upto groupCountsSpec)

end Rows
end Go.Proofs.Ytdinemhodnleeaa
