/- LinearAnswers at the values that the row opens. -/
import Derived.Test.YtlnkpbaibnfhhaaLaw6A
import Derived.Test.YtlnkpbaibnfhhaaOpen6
set_option linter.unusedVariables false
set_option linter.unusedSimpArgs false
namespace Go.Proofs.Ytlnkpbaibnfhhaa
open Go.RowKit
section
variable {H : Type} {enc : TypeId × Value → H} {W : World}
theorem coreAnswers (cs : Array Value) (h : Rd enc W 25 cs.toList) (cs1 : Array Value) (h1 : Rd enc W 39 cs1.toList) (f : Int) (hf : (Lit.int .u64 f).wf = true) :
    Calls Try.prog 6 #[.agg cs, .agg cs1, .int .u64 f] W fun e w' => e = .returned (.bool true) ∧ Same W w' := by
  obtain ⟨P, Q, G, K, ra, rn, rc, rs, e, uP, uQ, uG, uK, hr⟩ := rd_params h
  obtain ⟨x, xa, xn, xc, xs, ya, yn, yc, ys, e1, ux, hx, hy⟩ := rd_talk h1
  obtain ⟨l⟩ := cs
  obtain ⟨l1'⟩ := cs1
  have e : l = _ := e
  have e1 : l1' = _ := e1
  subst e e1
  exact lawAnswers P Q G K ra rn rc rs x f xa ya xn xc yn yc xs ys uP uQ uG uK ux (wf_U64 hf) W hr hx hy
end
end Go.Proofs.Ytlnkpbaibnfhhaa
