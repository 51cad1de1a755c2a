/- A group in its box, whatever has been made since. -/
import Derived.Test.YtfoncfojljmimaaGrpB
set_option linter.unusedVariables false
set_option linter.unusedSimpArgs false
namespace Go.Proofs.Ytfoncfojljmimaa
open Go.RowKit
theorem drew_same (w : World) : Same w w.drew := (Drawn.of w 1).below
abbrev BoxS (W0 : World) (bx : Nat) (P Q G H : Int) (ra : Option Addr) (rn rc : Nat) (w : World) : Prop :=
  w.cell? ⟨bx, 0, none⟩ = some (.int .u64 P) ∧ w.cell? ⟨bx, 1, none⟩ = some (.int .u64 Q) ∧ w.cell? ⟨bx, 2, none⟩ = some (.int .u64 G) ∧ w.cell? ⟨bx, 3, none⟩ = some (.int .u64 H) ∧ w.cell? ⟨bx, 4, none⟩ = some (.slice ra rn rc) ∧ Same W0 w
theorem BoxS.same {W0 w w' : World} {bx : Nat} {P Q G H : Int} {ra : Option Addr} {rn rc : Nat} (h : BoxS W0 bx P Q G H ra rn rc w) (hs : Same w w') : BoxS W0 bx P Q G H ra rn rc w' := by
  obtain ⟨c0, c1, c2, c3, c4, h5⟩ := h
  exact ⟨same_cell hs c0, same_cell hs c1, same_cell hs c2, same_cell hs c3, same_cell hs c4, h5.trans hs⟩
theorem BoxS.base {W0 w : World} {bx : Nat} {P Q G H : Int} {ra : Option Addr} {rn rc : Nat} (h : BoxS W0 bx P Q G H ra rn rc w) : Same W0 w := h.2.2.2.2.2
end Go.Proofs.Ytfoncfojljmimaa
