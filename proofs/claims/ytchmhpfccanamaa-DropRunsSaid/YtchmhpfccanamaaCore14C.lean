/- DropRuns at the values that the row opens. -/
import Derived.Test.YtchmhpfccanamaaLaw14C
import Derived.Test.YtchmhpfccanamaaOpenR
set_option linter.unusedVariables false
set_option linter.unusedSimpArgs false
namespace Go.Proofs.Ytchmhpfccanamaa
open Go.RowKit
section
variable {H : Type} {enc : TypeId × Value → H} {W : World}
theorem coreRuns (a : Option Addr) (n cap : Nat) (h : Rz enc W 36 [.slice a n cap]) :
    Calls Try.prog 4 #[.slice a n cap] W fun e w' => e = .returned (.bool true) ∧ Same W w' := by
  obtain ⟨a', n', cap', xs, e, hl, hm, hx⟩ := rz_acts h
  simp at e
  obtain ⟨rfl, rfl, rfl⟩ := e
  exact lawRuns a n cap xs W hx (by omega)
end
end Go.Proofs.Ytchmhpfccanamaa
