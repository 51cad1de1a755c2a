/- LinearExtracts at the values that the row opens. -/
import Derived.Test.YtlnkpbaibnfhhaaLaw6D
import Derived.Test.YtlnkpbaibnfhhaaOpen6
set_option linter.unusedVariables false
set_option linter.unusedSimpArgs false
namespace Go.Proofs.Ytlnkpbaibnfhhaa
open Go.RowKit
section
variable {H : Type} {enc : TypeId × Value → H} {W : World}
theorem coreExtracts (cs : Array Value) (h : Rd enc W 25 cs.toList) (cs1 : Array Value) (h1 : Rd enc W 29 cs1.toList) (cs2 : Array Value) (h2 : Rd enc W 45 cs2.toList) :
    Calls Try.prog 9 #[.agg cs, .agg cs1, .agg cs2] W fun e w' => e = .returned (.bool true) ∧ Same W w' := by
  obtain ⟨P, Q, G, K, ra, rn, rc, rs, e, uP, uQ, uG, uK, hr⟩ := rd_params h
  obtain ⟨ta, tn, tc, ts, ba, bn, bc, bs, e1, ht, hb⟩ := rd_claim h1
  obtain ⟨x, xa, xn, xc, xs, ya, yn, yc, ys, f, ua, un, uc, us, va, vn, vc, vs, e2, ux, hx, hy, uf, hu, hv⟩ := rd_talks h2
  obtain ⟨l⟩ := cs
  obtain ⟨l1'⟩ := cs1
  obtain ⟨l2'⟩ := cs2
  have e : l = _ := e
  have e1 : l1' = _ := e1
  have e2 : l2' = _ := e2
  subst e e1 e2
  exact lawExtracts P Q G K ra rn rc rs ta ba xa ya ua va tn tc bn bc xn xc yn yc un uc vn vc ts bs x f ys vs uP uQ uG uK ux uf W hr ht hb hy hv
end
end Go.Proofs.Ytlnkpbaibnfhhaa
