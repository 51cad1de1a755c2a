/- WireReads at the values that the row opens. -/
import Derived.Test.YtdbhcdhenapfoaaLaw10R
set_option linter.unusedVariables false
namespace Go.Proofs.Ytdbhcdhenapfoaa
open Go.RowKit
section
variable {W : World}
theorem coreReads (s : ByteArray) (hs : s.size ≤ maxLen) :
    Calls Try.prog 7 #[.string s] W fun e w' => e = .returned (.bool true) ∧ Same W w' := lawReads s W
end
end Go.Proofs.Ytdbhcdhenapfoaa
