/- WireLetters at the values that the row opens. -/
import Derived.Test.YtdbhcdhenapfoaaOpenW
set_option linter.unusedVariables false
namespace Go.Proofs.Ytdbhcdhenapfoaa
open Go.RowKit
section
variable {H : Type} {enc : TypeId × Value → H} {W : World}
theorem coreLetters (cs : Array Value) (h : Rd enc W 39 cs.toList) :
    Calls Try.prog 4 #[.agg cs] W fun e w' => e = .returned (.bool true) ∧ Same W w' := by
  obtain ⟨x0, x1, x2, x3, x4, x5, a1, n1, c1, a2, n2, c2, p, e, hu, i1, i2⟩ := rd_letter h
  obtain ⟨l⟩ := cs
  have e : l = _ := e
  subst e
  exact lawLetters x0 x1 x2 x3 x4 x5 a1 n1 c1 a2 n2 c2 p W hu i1 i2
end
end Go.Proofs.Ytdbhcdhenapfoaa
