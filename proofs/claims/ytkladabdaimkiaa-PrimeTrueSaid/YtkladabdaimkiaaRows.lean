/-
  No cell of these rows narrows 'for every input' (looked for: loops, veiled, ifaces, maps, wideKeys, modest, calm, conditions, laid).
  DERIVED. THE GIVEN ROWS OF THIS SEAT. 4 by the template 'for every input the law returns true; each argument reads behind the call as it read before'; 0 by the template 'total and deterministic' (their statements: YtkladabdaimkiaaTotals.lean).
  GIVEN WITH THE SEED: the statements are not yours to turn. If you find one false, say at which input.
  Laid BY PROGRAM, IN A SANDBOX (cutbox-rows.mjs): the forced cells as the released guide's own fill.sh prints them over the translation 28ad0b2d1cdf22bf… (all of the seat's roots in one cut). By AI agents, Wed Nov 11 2026. No macro, syntax, notation, axiom, sorry.
-/
import Derived.Test.YtkladabdaimkiaaChecked
import GoSem.Claim
import GoSem.ClaimJoined
import GoSem.ClaimMapViews
import Derived.JoinedTies
import Derived.KernelRfl
namespace Go.Proofs.Ytkladabdaimkiaa
/- THE CELL 'sum', in the pinned program and in every row, IS THE sha256 OF THE DUMP (.gsa) THAT YtkladabdaimkiaaProg.lean LOADS. Nothing in Lean hashes anything: it is a label: what it is worth is what the hold of that sum in a sandbox is worth. -/
noncomputable def Try.pinned : Pinned := { name := "ytkladabdaimkiaa", sum := "28ad0b2d1cdf22bfc1679b2da569ce64be38afd78a39c9e75eca911a6def999f", checked := Try.checked }
namespace Rows
def none {H : Type} : Left H := { results := [], args := [] }

/-- 'spandrellaw02.PrimeHolds': WHATEVER THE INPUT: true; the input reads as it did. -/
def primeHoldsSpec : ChangeSpec := { name := "primeHolds", fn := fun _ => fun
  | [d1, d2] => { results := [.lit (.bool true)], args := [d1, d2] }
  | _ => none }
def primeHoldsRow : OpenClaim := { program := "ytkladabdaimkiaa", sum := "28ad0b2d1cdf22bfc1679b2da569ce64be38afd78a39c9e75eca911a6def999f", func := "spandrel/spandrellaw02.PrimeHolds", spec := "primeHolds", named := ["math/bits.divideError", "math/bits.overflowError"], apart := false }
def PrimeHoldsSaid : Prop := primeHoldsRow.holds Try.pinned (OpenSpec.ofChange primeHoldsSpec)

/-- ITS FALSE NEIGHBOUR: 'it returns false'. Refute it at one input. -/
def primeHoldsWrong : ChangeSpec := { name := "primeHolds", fn := fun _ => fun
  | [d1, d2] => { results := [.lit (.bool false)], args := [d1, d2] }
  | _ => none }
def PrimeHoldsWrongFalsely : Prop := primeHoldsRow.holds Try.pinned (OpenSpec.ofChange primeHoldsWrong)

/-- 'spandrellaw02.PrimeTrue': WHATEVER THE INPUT: true; the input reads as it did. -/
def primeTrueSpec : ChangeSpec := { name := "primeTrue", fn := fun _ => fun
  | [d1, d2] => { results := [.lit (.bool true)], args := [d1, d2] }
  | _ => none }
def primeTrueRow : OpenClaim := { program := "ytkladabdaimkiaa", sum := "28ad0b2d1cdf22bfc1679b2da569ce64be38afd78a39c9e75eca911a6def999f", func := "spandrel/spandrellaw02.PrimeTrue", spec := "primeTrue", named := ["math/bits.divideError", "math/bits.overflowError"], apart := false }
def PrimeTrueSaid : Prop := primeTrueRow.holds Try.pinned (OpenSpec.ofChange primeTrueSpec)

/-- ITS FALSE NEIGHBOUR: 'it returns false'. Refute it at one input. -/
def primeTrueWrong : ChangeSpec := { name := "primeTrue", fn := fun _ => fun
  | [d1, d2] => { results := [.lit (.bool false)], args := [d1, d2] }
  | _ => none }
def PrimeTrueWrongFalsely : Prop := primeTrueRow.holds Try.pinned (OpenSpec.ofChange primeTrueWrong)

/-- 'spandrellaw02.PrimeBegins': WHATEVER THE INPUT: true; the input reads as it did. -/
def primeBeginsSpec : ChangeSpec := { name := "primeBegins", fn := fun _ => fun
  | [d1, d2, d3] => { results := [.lit (.bool true)], args := [d1, d2, d3] }
  | _ => none }
def primeBeginsRow : OpenClaim := { program := "ytkladabdaimkiaa", sum := "28ad0b2d1cdf22bfc1679b2da569ce64be38afd78a39c9e75eca911a6def999f", func := "spandrel/spandrellaw02.PrimeBegins", spec := "primeBegins", named := ["math/bits.divideError", "math/bits.overflowError"], apart := false }
def PrimeBeginsSaid : Prop := primeBeginsRow.holds Try.pinned (OpenSpec.ofChange primeBeginsSpec)

/-- ITS FALSE NEIGHBOUR: 'it returns false'. Refute it at one input. -/
def primeBeginsWrong : ChangeSpec := { name := "primeBegins", fn := fun _ => fun
  | [d1, d2, d3] => { results := [.lit (.bool false)], args := [d1, d2, d3] }
  | _ => none }
def PrimeBeginsWrongFalsely : Prop := primeBeginsRow.holds Try.pinned (OpenSpec.ofChange primeBeginsWrong)

/-- 'spandrellaw02.PrimeFermat': WHATEVER THE INPUT: true; the input reads as it did. -/
def primeFermatSpec : ChangeSpec := { name := "primeFermat", fn := fun _ => fun
  | [d1, d2, d3] => { results := [.lit (.bool true)], args := [d1, d2, d3] }
  | _ => none }
def primeFermatRow : OpenClaim := { program := "ytkladabdaimkiaa", sum := "28ad0b2d1cdf22bfc1679b2da569ce64be38afd78a39c9e75eca911a6def999f", func := "spandrel/spandrellaw02.PrimeFermat", spec := "primeFermat", named := ["math/bits.divideError", "math/bits.overflowError"], apart := false }
def PrimeFermatSaid : Prop := primeFermatRow.holds Try.pinned (OpenSpec.ofChange primeFermatSpec)

/-- ITS FALSE NEIGHBOUR: 'it returns false'. Refute it at one input. -/
def primeFermatWrong : ChangeSpec := { name := "primeFermat", fn := fun _ => fun
  | [d1, d2, d3] => { results := [.lit (.bool false)], args := [d1, d2, d3] }
  | _ => none }
def PrimeFermatWrongFalsely : Prop := primeFermatRow.holds Try.pinned (OpenSpec.ofChange primeFermatWrong)

/- THE SECOND FORM. 'bulk': how many values and letters a reading holds, each counted each time it is reached (what is shared counts as often as it is met; a slice's spare places count too). A statement '..UptoSaid' is the law's where the arguments, and the package variables that the reading takes, are together of bulk at most 1048576: NARROWER than '..Said'. Prove '..Said' where nothing that the law and all that it calls make is longer than what came in: it says more and counts as full. Else prove '..UptoSaid'. A law counts once. -/
mutual
def uptoBulk {H : Type} : DataW H → Nat
  | .lit (.string bytes) => bytes.length + 1
  | .lit _ => 1
  | .nil => 1
  | .ptr d => uptoBulk d + 1
  | .slice elems spare => uptoBulkAll elems + uptoBulkAll spare + 1
  | .agg parts => uptoBulkAll parts + 1
  | .iface _ d => uptoBulk d + 1
  | .map entries => uptoBulkEntries entries + 1
  | .held _ => 1
def uptoBulkAll {H : Type} : List (DataW H) → Nat
  | [] => 0
  | d :: r => uptoBulk d + uptoBulkAll r
def uptoBulkEntries {H : Type} : List (Lit × DataW H) → Nat
  | [] => 0
  | x :: r => uptoBulkEntry x + uptoBulkEntries r
def uptoBulkEntry {H : Type} : Lit × DataW H → Nat
  | (.string bytes, d) => bytes.length + uptoBulk d + 1
  | (_, d) => uptoBulk d + 1
 end
def uptoSmall : (H : Type) → List (DataW H) → Bool := fun _ ds => decide (uptoBulkAll ds ≤ 1048576)
def OpenSpec.upto (s : _root_.Go.ChangeSpec) : _root_.Go.OpenSpec := { _root_.Go.OpenSpec.ofChange s with cond := some uptoSmall }

/-- 'spandrellaw02.PrimeHolds', WHERE WHAT IT READS IS OF BULK AT MOST 1048576: true; the input reads as it did. -/
def primeHoldsUptoRow : OpenClaim := { program := "ytkladabdaimkiaa", sum := "28ad0b2d1cdf22bfc1679b2da569ce64be38afd78a39c9e75eca911a6def999f", func := "spandrel/spandrellaw02.PrimeHolds", spec := "primeHolds", named := ["math/bits.divideError", "math/bits.overflowError"], apart := false, narrowed := true }
def PrimeHoldsUptoSaid : Prop := primeHoldsUptoRow.holds Try.pinned (OpenSpec.upto primeHoldsSpec)

/-- 'spandrellaw02.PrimeTrue', WHERE WHAT IT READS IS OF BULK AT MOST 1048576: true; the input reads as it did. -/
def primeTrueUptoRow : OpenClaim := { program := "ytkladabdaimkiaa", sum := "28ad0b2d1cdf22bfc1679b2da569ce64be38afd78a39c9e75eca911a6def999f", func := "spandrel/spandrellaw02.PrimeTrue", spec := "primeTrue", named := ["math/bits.divideError", "math/bits.overflowError"], apart := false, narrowed := true }
def PrimeTrueUptoSaid : Prop := primeTrueUptoRow.holds Try.pinned (OpenSpec.upto primeTrueSpec)

/-- 'spandrellaw02.PrimeBegins', WHERE WHAT IT READS IS OF BULK AT MOST 1048576: true; the input reads as it did. -/
def primeBeginsUptoRow : OpenClaim := { program := "ytkladabdaimkiaa", sum := "28ad0b2d1cdf22bfc1679b2da569ce64be38afd78a39c9e75eca911a6def999f", func := "spandrel/spandrellaw02.PrimeBegins", spec := "primeBegins", named := ["math/bits.divideError", "math/bits.overflowError"], apart := false, narrowed := true }
def PrimeBeginsUptoSaid : Prop := primeBeginsUptoRow.holds Try.pinned (OpenSpec.upto primeBeginsSpec)

/-- 'spandrellaw02.PrimeFermat', WHERE WHAT IT READS IS OF BULK AT MOST 1048576: true; the input reads as it did. -/
def primeFermatUptoRow : OpenClaim := { program := "ytkladabdaimkiaa", sum := "28ad0b2d1cdf22bfc1679b2da569ce64be38afd78a39c9e75eca911a6def999f", func := "spandrel/spandrellaw02.PrimeFermat", spec := "primeFermat", named := ["math/bits.divideError", "math/bits.overflowError"], apart := false, narrowed := true }
def PrimeFermatUptoSaid : Prop := primeFermatUptoRow.holds Try.pinned (OpenSpec.upto primeFermatSpec)

end Rows
end Go.Proofs.Ytkladabdaimkiaa
