/- DropKeeps at the values that the row opens. -/
import Derived.Test.YtchmhpfccanamaaLaw14B
import Derived.Test.YtchmhpfccanamaaOpen14
set_option linter.unusedVariables false
set_option linter.unusedSimpArgs false
namespace Go.Proofs.Ytchmhpfccanamaa
open Go.RowKit
section
variable {W : World}
theorem coreKeeps (x : Int) (hx : (Lit.int .i64 x).wf = true) (e : Int) (he : (Lit.int .i64 e).wf = true) (y : Int) (hy : (Lit.int .u64 y).wf = true) :
    Calls Try.prog 5 #[.int .i64 x, .int .i64 e, .int .u64 y] W fun e w' => e = .returned (.bool true) ∧ Same W w' := by
  have h1 := bounds_i64 hx
  have h2 := bounds_i64 he
  exact lawKeeps x e y W (by omega) (by omega) (wf_U64 hy)
end
end Go.Proofs.Ytchmhpfccanamaa
