/- GroupCounts at the values that the row opens. -/
import Derived.Test.YtdinemhodnleeaaLaw4C
import Derived.Test.YtdinemhodnleeaaCore4
set_option linter.unusedVariables false
set_option linter.unusedSimpArgs false
namespace Go.Proofs.Ytdinemhodnleeaa
open Go.RowKit
section
variable {H : Type} {enc : TypeId × Value → H} {W : World}
theorem coreCounts (cs : Array Value) (h : Rd enc W 25 cs.toList) :
    Calls Try.prog 5 #[.agg cs] W fun e w' => e = .returned (.bool true) ∧ Same W w' := by
  obtain ⟨P, Q, G, K, ra, rn, rc, rs, e, uP, uQ, uG, uK, hr⟩ := rd_params h
  obtain ⟨l⟩ := cs
  have e : l = _ := e
  subst e
  exact lawCounts P Q G K ra rn rc rs (rows_fine hr) uP uQ uG uK W hr
end
end Go.Proofs.Ytdinemhodnleeaa
