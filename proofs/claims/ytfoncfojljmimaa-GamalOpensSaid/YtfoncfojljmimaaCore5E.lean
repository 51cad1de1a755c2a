/- GamalOpens at the values that the row opens. -/
import Derived.Test.YtfoncfojljmimaaLaw5E
import Derived.Test.YtfoncfojljmimaaW6
set_option linter.unusedVariables false
set_option linter.unusedSimpArgs false
namespace Go.Proofs.Ytfoncfojljmimaa
open Go.RowKit
section
variable {H : Type} {enc : TypeId × Value → H} {W : World}
theorem coreOpens (cs : Array Value) (h : Rd enc W 25 cs.toList) (m : Int) (hm : (Lit.int .u64 m).wf = true) (cs1 : Array Value) (h1 : Rd enc W 46 cs1.toList) :
    Calls Try.prog 6 #[.agg cs, .int .u64 m, .agg cs1] W fun e w' => e = .returned (.bool true) ∧ Same W w' := by
  obtain ⟨P, Q, G, K, ra, rn, rc, rs, e, uP, uQ, uG, uK, hr⟩ := rd_params h
  obtain ⟨a, n, ca, xs, b, k, cb, ys, e1, l0, m0, l1, m1, i0, i1⟩ := rd_two h1
  obtain ⟨l⟩ := cs
  obtain ⟨l1'⟩ := cs1
  have e : l = _ := e
  have e1 : l1' = _ := e1
  subst e e1
  exact lawOpens P Q G K ra rn rc rs m a b n ca k cb xs ys uP uQ uG uK (wf_U64 hm) l1 m1 W hr i0 i1
end
end Go.Proofs.Ytfoncfojljmimaa
