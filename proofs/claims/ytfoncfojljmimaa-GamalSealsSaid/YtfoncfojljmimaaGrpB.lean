/- A group handed over by value, in its box. -/
import Derived.Test.YtfoncfojljmimaaGrpS
import Derived.Test.YtfoncfojljmimaaRead
import Derived.Test.YtfoncfojljmimaaModB
set_option linter.unusedVariables false
set_option linter.unusedSimpArgs false
namespace Go.Proofs.Ytfoncfojljmimaa
open Go.RowKit
theorem par_box (w : World) (P Q G H : Int) (v : Value) : ∃ W bx, w.alloc (.cells #[.int .u64 P, .int .u64 Q, .int .u64 G, .int .u64 H, v] 25) = W ∧ w.heap.size = bx ∧ Same w W ∧
    W.cell? ⟨bx, 0, none⟩ = some (.int .u64 P) ∧ W.cell? ⟨bx, 1, none⟩ = some (.int .u64 Q) ∧ W.cell? ⟨bx, 2, none⟩ = some (.int .u64 G) ∧ W.cell? ⟨bx, 3, none⟩ = some (.int .u64 H) ∧ W.cell? ⟨bx, 4, none⟩ = some v :=
  ⟨_, _, rfl, rfl, (Same.refl w).alloc _, by simp [World.cell?_alloc_new], by simp [World.cell?_alloc_new], by simp [World.cell?_alloc_new], by simp [World.cell?_alloc_new], by simp [World.cell?_alloc_new]⟩
end Go.Proofs.Ytfoncfojljmimaa
