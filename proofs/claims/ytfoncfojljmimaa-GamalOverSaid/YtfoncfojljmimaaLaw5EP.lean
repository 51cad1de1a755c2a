/- Parts of the walks over several secrets and draws. -/
import Derived.Test.YtfoncfojljmimaaW6
import Derived.Test.YtfoncfojljmimaaW5
set_option linter.unusedVariables false
set_option linter.unusedSimpArgs false
namespace Go.Proofs.Ytfoncfojljmimaa
open Go.RowKit NT
/-- the group's box, and two values in another -/
abbrev TwoS (W0 : World) (gx lx : Nat) (P Q G H : Int) (ra : Option Addr) (rn rc : Nat) (u v : Value) (w : World) : Prop :=
  w.cell? ⟨lx, 0, none⟩ = some u ∧ w.cell? ⟨lx, 1, none⟩ = some v ∧ BoxS W0 gx P Q G H ra rn rc w
theorem TwoS.same {W0 w w' : World} {gx lx : Nat} {P Q G H : Int} {ra : Option Addr} {rn rc : Nat} {u v : Value} (h : TwoS W0 gx lx P Q G H ra rn rc u v w) (hs : Same w w') : TwoS W0 gx lx P Q G H ra rn rc u v w' :=
  ⟨same_cell hs h.1, same_cell hs h.2.1, h.2.2.same hs⟩
theorem par_two (w : World) (P Q G H : Int) (ra : Option Addr) (rn rc : Nat) (u v : Value) : ∃ W gx lx, (w.alloc (.cells #[.int .u64 P, .int .u64 Q, .int .u64 G, .int .u64 H, .slice ra rn rc] 25)).alloc (.cells #[u, v] 46) = W ∧ w.heap.size = gx ∧ gx + 1 = lx ∧
    TwoS w gx lx P Q G H ra rn rc u v W := by
  obtain ⟨W1, gx, e1, e2, hS, c0, c1, c2, c3, c4⟩ := par_box w P Q G H (.slice ra rn rc)
  have hz : W1.heap.size = gx + 1 := by rw [← e1, ← e2]; simp
  have hS1 : Same W1 (W1.alloc (.cells #[u, v] 46)) := (Same.refl W1).alloc _
  exact ⟨_, gx, gx + 1, by rw [e1], e2, rfl, by rw [← hz]; simp [World.cell?_alloc_new], by rw [← hz]; simp [World.cell?_alloc_new], same_cell hS1 c0, same_cell hS1 c1, same_cell hS1 c2, same_cell hS1 c3, same_cell hS1 c4, hS.trans hS1⟩
theorem take_snoc {xs : List Int} {k : Nat} (h : k < xs.length) : xs.take (k + 1) = xs.take k ++ [xs.getD k 0] := by
  rw [List.take_succ_eq_append_getElem h]
  simp [List.getD, h]
theorem getD_nonneg {w : World} {a : Option Addr} {n : Nat} {xs : List Int} (h : IntsAt w a n xs) : ∀ x ∈ xs, 0 ≤ x := by
  intro x hx
  obtain ⟨j, hj, e⟩ := List.getElem_of_mem hx
  have := (h.bd j).1
  rw [show xs.getD j 0 = xs[j] by simp [List.getD, hj], e] at this
  exact this
/-- the group's box, and a draw -/
abbrev YS (W0 : World) (gx yb yo : Nat) (P Q G H : Int) (ra : Option Addr) (rn rc : Nat) (r : Int) (w : World) : Prop :=
  w.cell? ⟨yb, yo, none⟩ = some (.int .u64 r) ∧ BoxS W0 gx P Q G H ra rn rc w
theorem YS.same {W0 w w' : World} {gx yb yo : Nat} {P Q G H : Int} {ra : Option Addr} {rn rc : Nat} {r : Int} (h : YS W0 gx yb yo P Q G H ra rn rc r w) (hs : Same w w') : YS W0 gx yb yo P Q G H ra rn rc r w' :=
  ⟨same_cell hs h.1, h.2.same hs⟩
theorem YS.set {W0 w : World} {gx yb yo : Nat} {P Q G H : Int} {ra : Option Addr} {rn rc : Nat} {r : Int} (h : YS W0 gx yb yo P Q G H ra rn rc r w) {b o : Nat} (hy : b ≠ yb) (hb : b ≠ gx) (hg : W0.heap.size ≤ b) (x : Value) : YS W0 gx yb yo P Q G H ra rn rc r (w.setCell ⟨b, o, none⟩ x) :=
  ⟨(World.cell?_setCell_far _ _ _ _ hy).trans h.1, h.2.set hb hg x⟩
end Go.Proofs.Ytfoncfojljmimaa
