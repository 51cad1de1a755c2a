/-
  No cell of these rows narrows 'for every input' (looked for: loops, veiled, ifaces, maps, wideKeys, modest, calm, conditions, laid).
  DERIVED. THE GIVEN ROWS OF THIS SEAT. 3 by the template 'for every input the law returns true; each argument reads behind the call as it read before'; 0 by the template 'total and deterministic' (their statements: YtchmhpfccanamaaTotals.lean).
  GIVEN WITH THE SEED: the statements are not yours to turn. If you find one false, say at which input.
  Laid BY PROGRAM, IN A SANDBOX (cutbox-rows.mjs): the forced cells as the released guide's own fill.sh prints them over the translation 2aa1c452ff8f13d2… (all of the seat's roots in one cut). By AI agents, Wed Nov 11 2026. No macro, syntax, notation, axiom, sorry.
-/
import Derived.Test.YtchmhpfccanamaaChecked
import GoSem.Claim
import GoSem.ClaimJoined
import GoSem.ClaimMapViews
import Derived.JoinedTies
import Derived.KernelRfl
namespace Go.Proofs.Ytchmhpfccanamaa
/- THE CELL 'sum', in the pinned program and in every row, IS THE sha256 OF THE DUMP (.gsa) THAT YtchmhpfccanamaaProg.lean LOADS. Nothing in Lean hashes anything: it is a label: what it is worth is what the hold of that sum in a sandbox is worth. -/
noncomputable def Try.pinned : Pinned := { name := "ytchmhpfccanamaa", sum := "2aa1c452ff8f13d2c68ca5c4f6d08a9dc3fc7bf8bfcf0842a9eeb9d9c1f43869", checked := Try.checked }
namespace Rows
def none {H : Type} : Left H := { results := [], args := [] }

/-- 'spandrellaw14.DropMeets': WHATEVER THE INPUT: true; the input reads as it did. -/
def dropMeetsSpec : ChangeSpec := { name := "dropMeets", fn := fun _ => fun
  | [d1, d2, d3] => { results := [.lit (.bool true)], args := [d1, d2, d3] }
  | _ => none }
def dropMeetsRow : OpenClaim := { program := "ytchmhpfccanamaa", sum := "2aa1c452ff8f13d2c68ca5c4f6d08a9dc3fc7bf8bfcf0842a9eeb9d9c1f43869", func := "spandrel/spandrellaw14.DropMeets", spec := "dropMeets", inPlace := ["sync/atomic.AddInt64", "sync/atomic.LoadInt64"], unfollowed := true, recurses := true, apart := false }
def DropMeetsSaid : Prop := dropMeetsRow.holds Try.pinned (OpenSpec.ofChange dropMeetsSpec)

/-- ITS FALSE NEIGHBOUR: 'it returns false'. Refute it at one input. -/
def dropMeetsWrong : ChangeSpec := { name := "dropMeets", fn := fun _ => fun
  | [d1, d2, d3] => { results := [.lit (.bool false)], args := [d1, d2, d3] }
  | _ => none }
def DropMeetsWrongFalsely : Prop := dropMeetsRow.holds Try.pinned (OpenSpec.ofChange dropMeetsWrong)

/-- 'spandrellaw14.DropRuns': WHATEVER THE INPUT: true; the input reads as it did. -/
def dropRunsSpec : ChangeSpec := { name := "dropRuns", fn := fun _ => fun
  | [d] => { results := [.lit (.bool true)], args := [d] }
  | _ => none }
def dropRunsRow : OpenClaim := { program := "ytchmhpfccanamaa", sum := "2aa1c452ff8f13d2c68ca5c4f6d08a9dc3fc7bf8bfcf0842a9eeb9d9c1f43869", func := "spandrel/spandrellaw14.DropRuns", spec := "dropRuns", inPlace := ["sync/atomic.AddInt64", "sync/atomic.LoadInt64"], unfollowed := true, recurses := true, apart := false }
def DropRunsSaid : Prop := dropRunsRow.holds Try.pinned (OpenSpec.ofChange dropRunsSpec)

/-- ITS FALSE NEIGHBOUR: 'it returns false'. Refute it at one input. -/
def dropRunsWrong : ChangeSpec := { name := "dropRuns", fn := fun _ => fun
  | [d] => { results := [.lit (.bool false)], args := [d] }
  | _ => none }
def DropRunsWrongFalsely : Prop := dropRunsRow.holds Try.pinned (OpenSpec.ofChange dropRunsWrong)

/-- 'spandrellaw14.DropKeeps': WHATEVER THE INPUT: true; the input reads as it did. -/
def dropKeepsSpec : ChangeSpec := { name := "dropKeeps", fn := fun _ => fun
  | [d1, d2, d3] => { results := [.lit (.bool true)], args := [d1, d2, d3] }
  | _ => none }
def dropKeepsRow : OpenClaim := { program := "ytchmhpfccanamaa", sum := "2aa1c452ff8f13d2c68ca5c4f6d08a9dc3fc7bf8bfcf0842a9eeb9d9c1f43869", func := "spandrel/spandrellaw14.DropKeeps", spec := "dropKeeps", inPlace := ["sync/atomic.AddInt64", "sync/atomic.LoadInt64"], unfollowed := true, recurses := true, apart := false }
def DropKeepsSaid : Prop := dropKeepsRow.holds Try.pinned (OpenSpec.ofChange dropKeepsSpec)

/-- ITS FALSE NEIGHBOUR: 'it returns false'. Refute it at one input. -/
def dropKeepsWrong : ChangeSpec := { name := "dropKeeps", fn := fun _ => fun
  | [d1, d2, d3] => { results := [.lit (.bool false)], args := [d1, d2, d3] }
  | _ => none }
def DropKeepsWrongFalsely : Prop := dropKeepsRow.holds Try.pinned (OpenSpec.ofChange dropKeepsWrong)

/- THE SECOND FORM. 'bulk': how many values and letters a reading holds, each counted each time it is reached (what is shared counts as often as it is met; a slice's spare places count too). A statement '..UptoSaid' is the law's where the arguments, and the package variables that the reading takes, are together of bulk at most 1048576: NARROWER than '..Said'. Prove '..Said' where nothing that the law and all that it calls make is longer than what came in: it says more and counts as full. Else prove '..UptoSaid'. A law counts once. -/
mutual
def uptoBulk {H : Type} : DataW H → Nat
  | .lit (.string bytes) => bytes.length + 1
  | .lit _ => 1
  | .nil => 1
  | .ptr d => uptoBulk d + 1
  | .slice elems spare => uptoBulkAll elems + uptoBulkAll spare + 1
  | .agg parts => uptoBulkAll parts + 1
  | .iface _ d => uptoBulk d + 1
  | .map entries => uptoBulkEntries entries + 1
  | .held _ => 1
def uptoBulkAll {H : Type} : List (DataW H) → Nat
  | [] => 0
  | d :: r => uptoBulk d + uptoBulkAll r
def uptoBulkEntries {H : Type} : List (Lit × DataW H) → Nat
  | [] => 0
  | x :: r => uptoBulkEntry x + uptoBulkEntries r
def uptoBulkEntry {H : Type} : Lit × DataW H → Nat
  | (.string bytes, d) => bytes.length + uptoBulk d + 1
  | (_, d) => uptoBulk d + 1
 end
def uptoSmall : (H : Type) → List (DataW H) → Bool := fun _ ds => decide (uptoBulkAll ds ≤ 1048576)
def OpenSpec.upto (s : _root_.Go.ChangeSpec) : _root_.Go.OpenSpec := { _root_.Go.OpenSpec.ofChange s with cond := some uptoSmall }

/-- 'spandrellaw14.DropMeets', WHERE WHAT IT READS IS OF BULK AT MOST 1048576: true; the input reads as it did. -/
def dropMeetsUptoRow : OpenClaim := { program := "ytchmhpfccanamaa", sum := "2aa1c452ff8f13d2c68ca5c4f6d08a9dc3fc7bf8bfcf0842a9eeb9d9c1f43869", func := "spandrel/spandrellaw14.DropMeets", spec := "dropMeets", inPlace := ["sync/atomic.AddInt64", "sync/atomic.LoadInt64"], unfollowed := true, recurses := true, apart := false, narrowed := true }
def DropMeetsUptoSaid : Prop := dropMeetsUptoRow.holds Try.pinned (OpenSpec.upto dropMeetsSpec)

/-- 'spandrellaw14.DropRuns', WHERE WHAT IT READS IS OF BULK AT MOST 1048576: true; the input reads as it did. -/
def dropRunsUptoRow : OpenClaim := { program := "ytchmhpfccanamaa", sum := "2aa1c452ff8f13d2c68ca5c4f6d08a9dc3fc7bf8bfcf0842a9eeb9d9c1f43869", func := "spandrel/spandrellaw14.DropRuns", spec := "dropRuns", inPlace := ["sync/atomic.AddInt64", "sync/atomic.LoadInt64"], unfollowed := true, recurses := true, apart := false, narrowed := true }
def DropRunsUptoSaid : Prop := dropRunsUptoRow.holds Try.pinned (OpenSpec.upto dropRunsSpec)

/-- 'spandrellaw14.DropKeeps', WHERE WHAT IT READS IS OF BULK AT MOST 1048576: true; the input reads as it did. -/
def dropKeepsUptoRow : OpenClaim := { program := "ytchmhpfccanamaa", sum := "2aa1c452ff8f13d2c68ca5c4f6d08a9dc3fc7bf8bfcf0842a9eeb9d9c1f43869", func := "spandrel/spandrellaw14.DropKeeps", spec := "dropKeeps", inPlace := ["sync/atomic.AddInt64", "sync/atomic.LoadInt64"], unfollowed := true, recurses := true, apart := false, narrowed := true }
def DropKeepsUptoSaid : Prop := dropKeepsUptoRow.holds Try.pinned (OpenSpec.upto dropKeepsSpec)

end Rows
end Go.Proofs.Ytchmhpfccanamaa
