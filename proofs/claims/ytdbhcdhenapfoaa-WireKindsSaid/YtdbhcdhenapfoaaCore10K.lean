/- WireKinds at the values that the row opens. -/
import Derived.Test.YtdbhcdhenapfoaaLaw10K
set_option linter.unusedVariables false
namespace Go.Proofs.Ytdbhcdhenapfoaa
open Go.RowKit
section
variable {W : World}
theorem coreKinds (s : ByteArray) (hs : s.size ≤ maxLen) (x : Int) (hx : (Lit.int .i64 x).wf = true) :
    Calls Try.prog 5 #[.string s, .int .i64 x] W fun e w' => e = .returned (.bool true) ∧ Same W w' := lawKinds s x W
end
end Go.Proofs.Ytdbhcdhenapfoaa
