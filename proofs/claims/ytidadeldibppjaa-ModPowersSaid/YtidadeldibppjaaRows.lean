/-
  No cell of these rows narrows 'for every input' (looked for: loops, veiled, ifaces, maps, wideKeys, modest, calm, conditions, laid).
  DERIVED. THE GIVEN ROWS OF THIS SEAT. 5 by the template 'for every input the law returns true; each argument reads behind the call as it read before'; 0 by the template 'total and deterministic' (their statements: YtidadeldibppjaaTotals.lean).
  GIVEN WITH THE SEED: the statements are not yours to turn. If you find one false, say at which input.
  Laid BY PROGRAM, IN A SANDBOX (cutbox-rows.mjs): the forced cells as the released guide's own fill.sh prints them over the translation 1120d41f0ded27d6… (all of the seat's roots in one cut). By AI agents, Wed Nov 11 2026. No macro, syntax, notation, axiom, sorry.
-/
import Derived.Test.YtidadeldibppjaaChecked
import GoSem.Claim
import GoSem.ClaimJoined
import GoSem.ClaimMapViews
import Derived.JoinedTies
import Derived.KernelRfl
namespace Go.Proofs.Ytidadeldibppjaa
/- THE CELL 'sum', in the pinned program and in every row, IS THE sha256 OF THE DUMP (.gsa) THAT YtidadeldibppjaaProg.lean LOADS. Nothing in Lean hashes anything: it is a label: what it is worth is what the hold of that sum in a sandbox is worth. -/
noncomputable def Try.pinned : Pinned := { name := "ytidadeldibppjaa", sum := "1120d41f0ded27d6bdee5e3d8bf223c29af166190ad1a1afe1febfdec5ae295a", checked := Try.checked }
namespace Rows
def none {H : Type} : Left H := { results := [], args := [] }

/-- 'spandrellaw01.ModProducts': WHATEVER THE INPUT: true; the input reads as it did. -/
def modProductsSpec : ChangeSpec := { name := "modProducts", fn := fun _ => fun
  | [d1, d2, d3] => { results := [.lit (.bool true)], args := [d1, d2, d3] }
  | _ => none }
def modProductsRow : OpenClaim := { program := "ytidadeldibppjaa", sum := "1120d41f0ded27d6bdee5e3d8bf223c29af166190ad1a1afe1febfdec5ae295a", func := "spandrel/spandrellaw01.ModProducts", spec := "modProducts", named := ["math/bits.divideError", "math/bits.overflowError"], apart := false }
def ModProductsSaid : Prop := modProductsRow.holds Try.pinned (OpenSpec.ofChange modProductsSpec)

/-- ITS FALSE NEIGHBOUR: 'it returns false'. Refute it at one input. -/
def modProductsWrong : ChangeSpec := { name := "modProducts", fn := fun _ => fun
  | [d1, d2, d3] => { results := [.lit (.bool false)], args := [d1, d2, d3] }
  | _ => none }
def ModProductsWrongFalsely : Prop := modProductsRow.holds Try.pinned (OpenSpec.ofChange modProductsWrong)

/-- 'spandrellaw01.ModPowers': WHATEVER THE INPUT: true; the input reads as it did. -/
def modPowersSpec : ChangeSpec := { name := "modPowers", fn := fun _ => fun
  | [d1, d2, d3] => { results := [.lit (.bool true)], args := [d1, d2, d3] }
  | _ => none }
def modPowersRow : OpenClaim := { program := "ytidadeldibppjaa", sum := "1120d41f0ded27d6bdee5e3d8bf223c29af166190ad1a1afe1febfdec5ae295a", func := "spandrel/spandrellaw01.ModPowers", spec := "modPowers", named := ["math/bits.divideError", "math/bits.overflowError"], apart := false }
def ModPowersSaid : Prop := modPowersRow.holds Try.pinned (OpenSpec.ofChange modPowersSpec)

/-- ITS FALSE NEIGHBOUR: 'it returns false'. Refute it at one input. -/
def modPowersWrong : ChangeSpec := { name := "modPowers", fn := fun _ => fun
  | [d1, d2, d3] => { results := [.lit (.bool false)], args := [d1, d2, d3] }
  | _ => none }
def ModPowersWrongFalsely : Prop := modPowersRow.holds Try.pinned (OpenSpec.ofChange modPowersWrong)

/-- 'spandrellaw01.ModInverses': WHATEVER THE INPUT: true; the input reads as it did. -/
def modInversesSpec : ChangeSpec := { name := "modInverses", fn := fun _ => fun
  | [d1, d2] => { results := [.lit (.bool true)], args := [d1, d2] }
  | _ => none }
def modInversesRow : OpenClaim := { program := "ytidadeldibppjaa", sum := "1120d41f0ded27d6bdee5e3d8bf223c29af166190ad1a1afe1febfdec5ae295a", func := "spandrel/spandrellaw01.ModInverses", spec := "modInverses", named := ["math/bits.divideError", "math/bits.overflowError"], apart := false }
def ModInversesSaid : Prop := modInversesRow.holds Try.pinned (OpenSpec.ofChange modInversesSpec)

/-- ITS FALSE NEIGHBOUR: 'it returns false'. Refute it at one input. -/
def modInversesWrong : ChangeSpec := { name := "modInverses", fn := fun _ => fun
  | [d1, d2] => { results := [.lit (.bool false)], args := [d1, d2] }
  | _ => none }
def ModInversesWrongFalsely : Prop := modInversesRow.holds Try.pinned (OpenSpec.ofChange modInversesWrong)

/-- 'spandrellaw01.ModSums': WHATEVER THE INPUT: true; the input reads as it did. -/
def modSumsSpec : ChangeSpec := { name := "modSums", fn := fun _ => fun
  | [d1, d2, d3] => { results := [.lit (.bool true)], args := [d1, d2, d3] }
  | _ => none }
def modSumsRow : OpenClaim := { program := "ytidadeldibppjaa", sum := "1120d41f0ded27d6bdee5e3d8bf223c29af166190ad1a1afe1febfdec5ae295a", func := "spandrel/spandrellaw01.ModSums", spec := "modSums", named := ["math/bits.divideError", "math/bits.overflowError"], apart := false }
def ModSumsSaid : Prop := modSumsRow.holds Try.pinned (OpenSpec.ofChange modSumsSpec)

/-- ITS FALSE NEIGHBOUR: 'it returns false'. Refute it at one input. -/
def modSumsWrong : ChangeSpec := { name := "modSums", fn := fun _ => fun
  | [d1, d2, d3] => { results := [.lit (.bool false)], args := [d1, d2, d3] }
  | _ => none }
def ModSumsWrongFalsely : Prop := modSumsRow.holds Try.pinned (OpenSpec.ofChange modSumsWrong)

/-- 'spandrellaw01.ModRules': WHATEVER THE INPUT: true; the input reads as it did. -/
def modRulesSpec : ChangeSpec := { name := "modRules", fn := fun _ => fun
  | [d1, d2, d3] => { results := [.lit (.bool true)], args := [d1, d2, d3] }
  | _ => none }
def modRulesRow : OpenClaim := { program := "ytidadeldibppjaa", sum := "1120d41f0ded27d6bdee5e3d8bf223c29af166190ad1a1afe1febfdec5ae295a", func := "spandrel/spandrellaw01.ModRules", spec := "modRules", named := ["math/bits.divideError", "math/bits.overflowError"], apart := false }
def ModRulesSaid : Prop := modRulesRow.holds Try.pinned (OpenSpec.ofChange modRulesSpec)

/-- ITS FALSE NEIGHBOUR: 'it returns false'. Refute it at one input. -/
def modRulesWrong : ChangeSpec := { name := "modRules", fn := fun _ => fun
  | [d1, d2, d3] => { results := [.lit (.bool false)], args := [d1, d2, d3] }
  | _ => none }
def ModRulesWrongFalsely : Prop := modRulesRow.holds Try.pinned (OpenSpec.ofChange modRulesWrong)

/- THE SECOND FORM. 'bulk': how many values and letters a reading holds, each counted each time it is reached (what is shared counts as often as it is met; a slice's spare places count too). A statement '..UptoSaid' is the law's where the arguments, and the package variables that the reading takes, are together of bulk at most 1048576: NARROWER than '..Said'. Prove '..Said' where nothing that the law and all that it calls make is longer than what came in: it says more and counts as full. Else prove '..UptoSaid'. A law counts once. -/
mutual
def uptoBulk {H : Type} : DataW H → Nat
  | .lit (.string bytes) => bytes.length + 1
  | .lit _ => 1
  | .nil => 1
  | .ptr d => uptoBulk d + 1
  | .slice elems spare => uptoBulkAll elems + uptoBulkAll spare + 1
  | .agg parts => uptoBulkAll parts + 1
  | .iface _ d => uptoBulk d + 1
  | .map entries => uptoBulkEntries entries + 1
  | .held _ => 1
def uptoBulkAll {H : Type} : List (DataW H) → Nat
  | [] => 0
  | d :: r => uptoBulk d + uptoBulkAll r
def uptoBulkEntries {H : Type} : List (Lit × DataW H) → Nat
  | [] => 0
  | x :: r => uptoBulkEntry x + uptoBulkEntries r
def uptoBulkEntry {H : Type} : Lit × DataW H → Nat
  | (.string bytes, d) => bytes.length + uptoBulk d + 1
  | (_, d) => uptoBulk d + 1
 end
def uptoSmall : (H : Type) → List (DataW H) → Bool := fun _ ds => decide (uptoBulkAll ds ≤ 1048576)
def OpenSpec.upto (s : _root_.Go.ChangeSpec) : _root_.Go.OpenSpec := { _root_.Go.OpenSpec.ofChange s with cond := some uptoSmall }

/-- 'spandrellaw01.ModProducts', WHERE WHAT IT READS IS OF BULK AT MOST 1048576: true; the input reads as it did. -/
def modProductsUptoRow : OpenClaim := { program := "ytidadeldibppjaa", sum := "1120d41f0ded27d6bdee5e3d8bf223c29af166190ad1a1afe1febfdec5ae295a", func := "spandrel/spandrellaw01.ModProducts", spec := "modProducts", named := ["math/bits.divideError", "math/bits.overflowError"], apart := false, narrowed := true }
def ModProductsUptoSaid : Prop := modProductsUptoRow.holds Try.pinned (OpenSpec.upto modProductsSpec)

/-- 'spandrellaw01.ModPowers', WHERE WHAT IT READS IS OF BULK AT MOST 1048576: true; the input reads as it did. -/
def modPowersUptoRow : OpenClaim := { program := "ytidadeldibppjaa", sum := "1120d41f0ded27d6bdee5e3d8bf223c29af166190ad1a1afe1febfdec5ae295a", func := "spandrel/spandrellaw01.ModPowers", spec := "modPowers", named := ["math/bits.divideError", "math/bits.overflowError"], apart := false, narrowed := true }
def ModPowersUptoSaid : Prop := modPowersUptoRow.holds Try.pinned (OpenSpec.upto modPowersSpec)

/-- 'spandrellaw01.ModInverses', WHERE WHAT IT READS IS OF BULK AT MOST 1048576: true; the input reads as it did. -/
def modInversesUptoRow : OpenClaim := { program := "ytidadeldibppjaa", sum := "1120d41f0ded27d6bdee5e3d8bf223c29af166190ad1a1afe1febfdec5ae295a", func := "spandrel/spandrellaw01.ModInverses", spec := "modInverses", named := ["math/bits.divideError", "math/bits.overflowError"], apart := false, narrowed := true }
def ModInversesUptoSaid : Prop := modInversesUptoRow.holds Try.pinned (OpenSpec.upto modInversesSpec)

/-- 'spandrellaw01.ModSums', WHERE WHAT IT READS IS OF BULK AT MOST 1048576: true; the input reads as it did. -/
def modSumsUptoRow : OpenClaim := { program := "ytidadeldibppjaa", sum := "1120d41f0ded27d6bdee5e3d8bf223c29af166190ad1a1afe1febfdec5ae295a", func := "spandrel/spandrellaw01.ModSums", spec := "modSums", named := ["math/bits.divideError", "math/bits.overflowError"], apart := false, narrowed := true }
def ModSumsUptoSaid : Prop := modSumsUptoRow.holds Try.pinned (OpenSpec.upto modSumsSpec)

/-- 'spandrellaw01.ModRules', WHERE WHAT IT READS IS OF BULK AT MOST 1048576: true; the input reads as it did. -/
def modRulesUptoRow : OpenClaim := { program := "ytidadeldibppjaa", sum := "1120d41f0ded27d6bdee5e3d8bf223c29af166190ad1a1afe1febfdec5ae295a", func := "spandrel/spandrellaw01.ModRules", spec := "modRules", named := ["math/bits.divideError", "math/bits.overflowError"], apart := false, narrowed := true }
def ModRulesUptoSaid : Prop := modRulesUptoRow.holds Try.pinned (OpenSpec.upto modRulesSpec)

end Rows
end Go.Proofs.Ytidadeldibppjaa
