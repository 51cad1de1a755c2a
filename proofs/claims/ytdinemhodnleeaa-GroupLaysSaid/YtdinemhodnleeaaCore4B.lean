/- GroupLays at the values that the row opens. -/
import Derived.Test.YtdinemhodnleeaaLaw4B
import Derived.Test.YtdinemhodnleeaaCore4
set_option linter.unusedVariables false
set_option linter.unusedSimpArgs false
namespace Go.Proofs.Ytdinemhodnleeaa
open Go.RowKit
section
variable {H : Type} {enc : TypeId × Value → H} {W : World}
theorem coreLays (cs : Array Value) (h : Rd enc W 25 cs.toList) (k : Int) (hk : (Lit.int .u64 k).wf = true) :
    Calls Try.prog 4 #[.agg cs, .int .u64 k] W fun e w' => e = .returned (.bool true) ∧ Same W w' := by
  obtain ⟨P, Q, G, K, ra, rn, rc, rs, e, uP, uQ, uG, uK, hr⟩ := rd_params h
  obtain ⟨l⟩ := cs
  have e : l = _ := e
  subst e
  exact lawLays P Q G K ra rn rc rs k (rows_fine hr) uP uQ uG uK (wf_U64 hk) W hr
end
end Go.Proofs.Ytdinemhodnleeaa
