/- GamalAdds at the values that the row opens. -/
import Derived.Test.YtfoncfojljmimaaLaw5B
import Derived.Test.YtfoncfojljmimaaW6
set_option linter.unusedVariables false
set_option linter.unusedSimpArgs false
namespace Go.Proofs.Ytfoncfojljmimaa
open Go.RowKit
section
variable {H : Type} {enc : TypeId × Value → H} {W : World}
theorem coreAdds (cs : Array Value) (h : Rd enc W 25 cs.toList) (cs1 : Array Value) (h1 : Rd enc W 27 cs1.toList) (cs2 : Array Value) (h2 : Rd enc W 43 cs2.toList) :
    Calls Try.prog 5 #[.agg cs, .agg cs1, .agg cs2] W fun e w' => e = .returned (.bool true) ∧ Same W w' := by
  obtain ⟨P, Q, G, K, ra, rn, rc, rs, e, uP, uQ, uG, uK, hr⟩ := rd_params h
  obtain ⟨cu, cv, e1, ucu, ucv⟩ := rd_pair h1
  obtain ⟨y, r, x, e2, uy, ur, ux⟩ := rd_tri h2
  obtain ⟨l⟩ := cs
  obtain ⟨l1⟩ := cs1
  obtain ⟨l2⟩ := cs2
  have e : l = _ := e
  have e1 : l1 = _ := e1
  have e2 : l2 = _ := e2
  subst e e1 e2
  exact lawAdds P Q G K ra rn rc rs cu cv y r x uP uQ uG uK ucu ucv uy ur ux W hr
end
end Go.Proofs.Ytfoncfojljmimaa
