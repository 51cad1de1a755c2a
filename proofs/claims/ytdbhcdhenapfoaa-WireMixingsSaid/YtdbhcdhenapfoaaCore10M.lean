/- WireMixings at the values that the row opens. -/
import Derived.Test.YtdbhcdhenapfoaaOpenX
set_option linter.unusedVariables false
namespace Go.Proofs.Ytdbhcdhenapfoaa
open Go.RowKit
section
variable {H : Type} {enc : TypeId × Value → H} {W : World}
theorem coreMixings (cs : Array Value) (h : Rd enc W 30 cs.toList) :
    Calls Try.prog 3 #[.agg cs] W fun e w' => e = .returned (.bool true) ∧ Same W w' := by
  obtain ⟨a0, n0, c0, a1, n1, c1, a2, n2, c2, a3, n3, c3, a4, n4, c4, a5, n5, c5, a6, n6, c6, x, e, hx⟩ := rd_mixing h
  obtain ⟨l⟩ := cs
  have e : l = _ := e
  subst e
  exact lawMixings a0 n0 c0 a1 n1 c1 a2 n2 c2 a3 n3 c3 a4 n4 c4 a5 n5 c5 a6 n6 c6 x W hx
end
end Go.Proofs.Ytdbhcdhenapfoaa
