/- DropMeets at the values that the row opens. -/
import Derived.Test.YtchmhpfccanamaaLaw14A
import Derived.Test.YtchmhpfccanamaaOpen14
set_option linter.unusedVariables false
set_option linter.unusedSimpArgs false
namespace Go.Proofs.Ytchmhpfccanamaa
open Go.RowKit
section
variable {H : Type} {enc : TypeId × Value → H} {W : World}
theorem coreMeets (a : Option Addr) (n cap : Nat) (h : Rd enc W 22 [.slice a n cap]) (cs1 : Array Value) (h1 : Rd enc W 26 cs1.toList) (cs2 : Array Value) (h2 : Rd enc W 27 cs2.toList) :
    Calls Try.prog 3 #[.slice a n cap, .agg cs1, .agg cs2] W fun e w' => e = .returned (.bool true) ∧ Same W w' := by
  obtain ⟨a', n', cap', l, e, hc, hm, hn⟩ := rd_notes h
  simp at e
  obtain ⟨rfl, rfl, rfl⟩ := e
  obtain ⟨x, y, e1, ux⟩ := rd_two h1
  obtain ⟨z0, z1, e2, u0, u1⟩ := rd_ints2 h2
  obtain ⟨l1⟩ := cs1
  obtain ⟨l2⟩ := cs2
  have e1 : l1 = _ := e1
  have e2 : l2 = _ := e2
  subst e1 e2
  exact lawMeets a n cap l x.1 x.2.1 x.2.2 y.1 y.2.1 y.2.2 z0 z1 W hn (by omega) ux u0 u1
end
end Go.Proofs.Ytchmhpfccanamaa
