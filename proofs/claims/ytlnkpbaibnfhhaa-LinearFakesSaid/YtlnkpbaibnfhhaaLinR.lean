/- A list of lists of uint64, as it stands in memory; a group and a claim in their boxes. -/
import Derived.Test.YtlnkpbaibnfhhaaW5
import Derived.Test.YtlnkpbaibnfhhaaLinS
set_option linter.unusedVariables false
set_option linter.unusedSimpArgs false
namespace Go.Proofs.Ytlnkpbaibnfhhaa
open Go.RowKit
structure MatAt (w : World) (a : Option Addr) (n : Nat) (m : List (List Int)) : Prop where
  len : m.length = n
  small : n ≤ 9223372036854775807
  rows : 0 < n → ∃ b off, a = some ⟨b, off, none⟩ ∧ ∀ j, j < n → ∃ fa fn fc, w.cell? ⟨b, off + j, none⟩ = some (.slice fa fn fc) ∧ IntsAt w fa fn (m.getD j [])
theorem MatAt.same {w w' : World} {a : Option Addr} {n : Nat} {m : List (List Int)} (h : MatAt w a n m) (hs : Same w w') : MatAt w' a n m :=
  ⟨h.len, h.small, fun h0 => by
    obtain ⟨b, off, e, hc⟩ := h.rows h0
    exact ⟨b, off, e, fun j hj => by obtain ⟨fa, fn, fc, h1, h2⟩ := hc j hj; exact ⟨fa, fn, fc, same_cell hs h1, h2.same hs⟩⟩⟩
/-- the group's box, and a claim's -/
abbrev ClS (W0 : World) (gx cx : Nat) (P Q G H : Int) (ra : Option Addr) (rn rc : Nat) (u v : Value) (w : World) : Prop :=
  w.cell? ⟨cx, 0, none⟩ = some u ∧ w.cell? ⟨cx, 1, none⟩ = some v ∧ BoxS W0 gx P Q G H ra rn rc w
theorem ClS.same {W0 w w' : World} {gx cx : Nat} {P Q G H : Int} {ra : Option Addr} {rn rc : Nat} {u v : Value} (h : ClS W0 gx cx P Q G H ra rn rc u v w) (hs : Same w w') : ClS W0 gx cx P Q G H ra rn rc u v w' :=
  ⟨same_cell hs h.1, same_cell hs h.2.1, h.2.2.same hs⟩
theorem ClS.base {W0 w : World} {gx cx : Nat} {P Q G H : Int} {ra : Option Addr} {rn rc : Nat} {u v : Value} (h : ClS W0 gx cx P Q G H ra rn rc u v w) : Same W0 w := h.2.2.base
theorem par_claim (w : World) (P Q G H : Int) (ra : Option Addr) (rn rc : Nat) (u v : Value) : ∃ W gx cx, (w.alloc (.cells #[.int .u64 P, .int .u64 Q, .int .u64 G, .int .u64 H, .slice ra rn rc] 25)).alloc (.cells #[u, v] 29) = W ∧ w.heap.size = gx ∧ gx + 1 = cx ∧
    ClS w gx cx P Q G H ra rn rc u v W := by
  obtain ⟨W1, gx, e1, e2, hS, c0, c1, c2, c3, c4⟩ := par_box w P Q G H (.slice ra rn rc)
  have hz : W1.heap.size = gx + 1 := by rw [← e1, ← e2]; simp
  have hS1 : Same W1 (W1.alloc (.cells #[u, v] 29)) := (Same.refl W1).alloc _
  exact ⟨_, gx, gx + 1, by rw [e1], e2, rfl, by rw [← hz]; simp [World.cell?_alloc_new], by rw [← hz]; simp [World.cell?_alloc_new], same_cell hS1 c0, same_cell hS1 c1, same_cell hS1 c2, same_cell hS1 c3, same_cell hS1 c4, hS.trans hS1⟩
end Go.Proofs.Ytlnkpbaibnfhhaa
