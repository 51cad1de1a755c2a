/- LinearFakes at the values that the row opens. -/
import Derived.Test.YtlnkpbaibnfhhaaLaw6F
import Derived.Test.YtlnkpbaibnfhhaaOpen6
import Derived.Test.YtlnkpbaibnfhhaaSized
set_option linter.unusedVariables false
set_option linter.unusedSimpArgs false
namespace Go.Proofs.Ytlnkpbaibnfhhaa
open Go.RowKit
section
variable {H : Type} {enc : TypeId × Value → H} {W : World}
theorem coreFakes (cs : Array Value) (h : Rd enc W 25 cs.toList) (a : Option Addr) (len cap : Nat) (h1 : Rd enc W 27 [.slice a len cap]) (sz : len * Try.prog.bytesOf 26 ≤ reachBytes) (cs2 : Array Value) (h2 : Rd enc W 39 cs2.toList) :
    Calls Try.prog 8 #[.agg cs, .slice a len cap, .agg cs2] W fun e w' => e = .returned (.bool true) ∧ Same W w' := by
  have hbn : len * 24 ≤ 140737488355328 := by
    rw [show Try.prog.bytesOf 26 = 24 by kernel_rfl] at sz
    have : reachBytes = 140737488351232 := rfl
    omega
  obtain ⟨P, Q, G, K, ra, rn, rc, rs, e, uP, uQ, uG, uK, hr⟩ := rd_params h
  obtain ⟨a', n', cap', bs, e1, _, _, hb⟩ := rd_mat h1
  obtain ⟨x, xa, xn, xc, xs, ya, yn, yc, ys, e2, ux, hx, hy⟩ := rd_talk h2
  obtain ⟨l⟩ := cs
  obtain ⟨l2'⟩ := cs2
  have e : l = _ := e
  have e2 : l2' = _ := e2
  subst e e2
  simp at e1
  obtain ⟨rfl, rfl, rfl⟩ := e1
  exact lawFakes P Q G K ra rn rc rs a xa ya len cap xn xc yn yc bs x xs ys uP uQ uG uK ux hbn W hr hb hx hy
end
end Go.Proofs.Ytlnkpbaibnfhhaa
