/- GamalTimes at the values that the row opens. -/
import Derived.Test.YtfoncfojljmimaaLaw5D
import Derived.Test.YtfoncfojljmimaaW6
set_option linter.unusedVariables false
set_option linter.unusedSimpArgs false
namespace Go.Proofs.Ytfoncfojljmimaa
open Go.RowKit
section
variable {H : Type} {enc : TypeId × Value → H} {W : World}
theorem coreTimes (cs : Array Value) (h : Rd enc W 25 cs.toList) (cs1 : Array Value) (h1 : Rd enc W 28 cs1.toList) (x : Int) (hx : (Lit.int .u64 x).wf = true) :
    Calls Try.prog 3 #[.agg cs, .agg cs1, .int .u64 x] W fun e w' => e = .returned (.bool true) ∧ Same W w' := by
  obtain ⟨P, Q, G, K, ra, rn, rc, rs, e, uP, uQ, uG, uK, hr⟩ := rd_params h
  obtain ⟨au, av, bu, bv, e1, uau, uav, ubu, ubv⟩ := rd_pairs h1
  obtain ⟨l⟩ := cs
  obtain ⟨l1⟩ := cs1
  have e : l = _ := e
  have e1 : l1 = _ := e1
  subst e e1
  exact lawTimes P Q G K ra rn rc rs au av bu bv x uP uQ uG uK uau uav ubu ubv (wf_U64 hx) W hr
end
end Go.Proofs.Ytfoncfojljmimaa
