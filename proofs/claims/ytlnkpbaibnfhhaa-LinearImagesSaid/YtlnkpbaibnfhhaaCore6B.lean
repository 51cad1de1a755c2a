/- LinearImages at the values that the row opens. -/
import Derived.Test.YtlnkpbaibnfhhaaLaw6B
import Derived.Test.YtlnkpbaibnfhhaaOpen6
set_option linter.unusedVariables false
set_option linter.unusedSimpArgs false
namespace Go.Proofs.Ytlnkpbaibnfhhaa
open Go.RowKit
section
variable {H : Type} {enc : TypeId × Value → H} {W : World}
theorem coreImages (cs : Array Value) (h : Rd enc W 25 cs.toList) (cs1 : Array Value) (h1 : Rd enc W 29 cs1.toList) (a : Option Addr) (len cap : Nat) (h2 : Rd enc W 26 [.slice a len cap]) :
    Calls Try.prog 3 #[.agg cs, .agg cs1, .slice a len cap] W fun e w' => e = .returned (.bool true) ∧ Same W w' := by
  obtain ⟨P, Q, G, K, ra, rn, rc, rs, e, uP, uQ, uG, uK, hr⟩ := rd_params h
  obtain ⟨ta, tn, tc, ts, ba, bn, bc, bs, e1, ht, hb⟩ := rd_claim h1
  obtain ⟨a', n', cap', xs, e2, _, _, hi⟩ := rd_ints h2
  obtain ⟨l⟩ := cs
  obtain ⟨l1'⟩ := cs1
  have e : l = _ := e
  have e1 : l1' = _ := e1
  subst e e1
  simp at e2
  obtain ⟨rfl, rfl, rfl⟩ := e2
  exact lawImages P Q G K ra rn rc rs ta ba a tn tc bn bc len cap ts bs xs uP uQ uG uK W hr ht hb hi
end
end Go.Proofs.Ytlnkpbaibnfhhaa
