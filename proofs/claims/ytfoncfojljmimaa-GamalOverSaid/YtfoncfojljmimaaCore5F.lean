/- GamalOver at the values that the row opens. -/
import Derived.Test.YtfoncfojljmimaaLaw5F
import Derived.Test.YtfoncfojljmimaaW6
set_option linter.unusedVariables false
set_option linter.unusedSimpArgs false
namespace Go.Proofs.Ytfoncfojljmimaa
open Go.RowKit
section
variable {H : Type} {enc : TypeId × Value → H} {W : World}
theorem coreOver (cs : Array Value) (h : Rd enc W 25 cs.toList) (cs1 : Array Value) (h1 : Rd enc W 43 cs1.toList) (cs2 : Array Value) (h2 : Rd enc W 46 cs2.toList) :
    Calls Try.prog 8 #[.agg cs, .agg cs1, .agg cs2] W fun e w' => e = .returned (.bool true) ∧ Same W w' := by
  obtain ⟨P, Q, G, K, ra, rn, rc, rs, e, uP, uQ, uG, uK, hr⟩ := rd_params h
  obtain ⟨m, x, r, e1, um, ux, ur⟩ := rd_tri h1
  obtain ⟨a, n, ca, xs, b, k, cb, ys, e2, l0, m0, l1, m1, i0, i1⟩ := rd_two h2
  obtain ⟨l⟩ := cs
  obtain ⟨l1'⟩ := cs1
  obtain ⟨l2'⟩ := cs2
  have e : l = _ := e
  have e1 : l1' = _ := e1
  have e2 : l2' = _ := e2
  subst e e1 e2
  exact lawOver P Q G K ra rn rc rs m x r a b n ca k cb xs ys uP uQ uG uK um ux ur W hr i0 i1
end
end Go.Proofs.Ytfoncfojljmimaa
