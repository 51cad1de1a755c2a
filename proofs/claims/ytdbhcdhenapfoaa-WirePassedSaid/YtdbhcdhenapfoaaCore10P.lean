/- WirePassed at the values that the row opens. -/
import Derived.Test.YtdbhcdhenapfoaaOpenG
set_option linter.unusedVariables false
namespace Go.Proofs.Ytdbhcdhenapfoaa
open Go.RowKit
section
variable {H : Type} {enc : TypeId × Value → H} {W : World}
theorem corePassed (a : Option Addr) (len cap : Nat) (h : Rd enc W 51 [.slice a len cap]) :
    Calls Try.prog 6 #[.slice a len cap] W fun e w' => e = .returned (.bool true) ∧ Same W w' := by
  obtain ⟨a', n, c, ls, e, _, _, hx⟩ := rd_passl h
  injection e with e _
  obtain ⟨e1, e2, e3⟩ := Value.slice.inj e
  subst e1 e2 e3
  exact lawPassed a len cap ls W hx
end
end Go.Proofs.Ytdbhcdhenapfoaa
