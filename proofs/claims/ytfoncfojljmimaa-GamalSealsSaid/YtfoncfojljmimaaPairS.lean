/- A group in its box, and a pair of the function's own beside it. -/
import Derived.Test.YtfoncfojljmimaaBoxS
import Derived.Deep.RegionHeld
set_option linter.unusedVariables false
set_option linter.unusedSimpArgs false
namespace Go.Proofs.Ytfoncfojljmimaa
open Go.RowKit
theorem same_frozen {w w' : World} (h : Same w w') {a : Addr} {v : Value} (hc : w.cell? a = some v) {x : Bool} (hf : w.frozen? a = x) : w'.frozen? a = x := (h.frozen (World.block_lt_of_cell? w a hc)).trans hf
/-- A pair's box, not frozen. -/
structure PairAt (w : World) (b : Nat) (u v : Value) : Prop where
  u : w.cell? ⟨b, 0, none⟩ = some u
  v : w.cell? ⟨b, 1, none⟩ = some v
  fu : w.frozen? ⟨b, 0, none⟩ = false
  fv : w.frozen? ⟨b, 1, none⟩ = false
theorem PairAt.same {w w' : World} {b : Nat} {u v : Value} (h : PairAt w b u v) (hs : Same w w') : PairAt w' b u v :=
  ⟨same_cell hs h.u, same_cell hs h.v, same_frozen hs h.u h.fu, same_frozen hs h.v h.fv⟩
theorem PairAt.set0 {w : World} {b : Nat} {u v : Value} (h : PairAt w b u v) (x : Value) : PairAt (w.setCell ⟨b, 0, none⟩ x) b x v :=
  ⟨World.cell?_setCell_same _ _ _ h.u, (World.cell?_setCell_other _ _ _ _ (by simp)).trans h.v, by simp [h.fu], by simp [h.fv]⟩
theorem PairAt.set1 {w : World} {b : Nat} {u v : Value} (h : PairAt w b u v) (x : Value) : PairAt (w.setCell ⟨b, 1, none⟩ x) b u x :=
  ⟨(World.cell?_setCell_other _ _ _ _ (by simp)).trans h.u, World.cell?_setCell_same _ _ _ h.v, by simp [h.fu], by simp [h.fv]⟩
theorem PairAt.far {w : World} {b : Nat} {u v : Value} (h : PairAt w b u v) {b' o : Nat} (hb : b' ≠ b) (x : Value) : PairAt (w.setCell ⟨b', o, none⟩ x) b u v :=
  ⟨(World.cell?_setCell_far _ _ _ _ hb).trans h.u, (World.cell?_setCell_far _ _ _ _ hb).trans h.v, by simp [h.fu], by simp [h.fv]⟩
theorem PairAt.new (w : World) (t : TypeId) (u v : Value) : PairAt (w.alloc (.cells #[u, v] t)) w.heap.size u v :=
  ⟨by simp [World.cell?_alloc_new], by simp [World.cell?_alloc_new], by simp [World.frozen?_alloc_new], by simp [World.frozen?_alloc_new]⟩
theorem BoxS.set {W0 w : World} {bx : Nat} {P Q G H : Int} {ra : Option Addr} {rn rc : Nat} (h : BoxS W0 bx P Q G H ra rn rc w) {b o : Nat} (hb : b ≠ bx) (hg : W0.heap.size ≤ b) (x : Value) : BoxS W0 bx P Q G H ra rn rc (w.setCell ⟨b, o, none⟩ x) := by
  obtain ⟨c0, c1, c2, c3, c4, h5⟩ := h
  exact ⟨(World.cell?_setCell_far _ _ _ _ hb).trans c0, (World.cell?_setCell_far _ _ _ _ hb).trans c1, (World.cell?_setCell_far _ _ _ _ hb).trans c2, (World.cell?_setCell_far _ _ _ _ hb).trans c3, (World.cell?_setCell_far _ _ _ _ hb).trans c4, Below.setCell h5 hg x⟩
/-- the box, and a pair of some worth -/
abbrev PairS (W0 : World) (bx by_ : Nat) (P Q G H : Int) (ra : Option Addr) (rn rc : Nat) (w : World) : Prop :=
  BoxS W0 bx P Q G H ra rn rc w ∧ ∃ u v, PairAt w by_ u v
theorem PairS.same {W0 w w' : World} {bx by_ : Nat} {P Q G H : Int} {ra : Option Addr} {rn rc : Nat} (h : PairS W0 bx by_ P Q G H ra rn rc w) (hs : Same w w') : PairS W0 bx by_ P Q G H ra rn rc w' :=
  ⟨h.1.same hs, by obtain ⟨u, v, k⟩ := h.2; exact ⟨u, v, k.same hs⟩⟩
theorem PairS.set0 {W0 w : World} {bx by_ : Nat} {P Q G H : Int} {ra : Option Addr} {rn rc : Nat} (h : PairS W0 bx by_ P Q G H ra rn rc w) (hb : by_ ≠ bx) (hg : W0.heap.size ≤ by_) (x : Value) : PairS W0 bx by_ P Q G H ra rn rc (w.setCell ⟨by_, 0, none⟩ x) :=
  ⟨h.1.set hb hg x, by obtain ⟨u, v, k⟩ := h.2; exact ⟨_, _, k.set0 x⟩⟩
theorem PairS.set1 {W0 w : World} {bx by_ : Nat} {P Q G H : Int} {ra : Option Addr} {rn rc : Nat} (h : PairS W0 bx by_ P Q G H ra rn rc w) (hb : by_ ≠ bx) (hg : W0.heap.size ≤ by_) (x : Value) : PairS W0 bx by_ P Q G H ra rn rc (w.setCell ⟨by_, 1, none⟩ x) :=
  ⟨h.1.set hb hg x, by obtain ⟨u, v, k⟩ := h.2; exact ⟨_, _, k.set1 x⟩⟩
theorem ints_pair (w : World) (t : TypeId) (a b : Int) (ha : U64 a) (hb : U64 b) : IntsAt (w.alloc (.cells #[.int .u64 a, .int .u64 b] t)) (some ⟨w.heap.size, 0, none⟩) 2 [a, b] := by
  refine ⟨rfl, by omega, fun _ => ⟨w.heap.size, 0, rfl, fun j hj => ?_⟩, fun j => ?_⟩
  · match j, hj with
    | 0, _ => simp [World.cell?_alloc_new]
    | 1, _ => simp [World.cell?_alloc_new]
  · match j with
    | 0 => exact ha
    | 1 => exact hb
    | _ + 2 => exact ⟨by simp, by simp⟩
theorem ints_one (w : World) (t : TypeId) (a : Int) (ha : U64 a) : IntsAt (w.alloc (.cells #[.int .u64 a] t)) (some ⟨w.heap.size, 0, none⟩) 1 [a] := by
  refine ⟨rfl, by omega, fun _ => ⟨w.heap.size, 0, rfl, fun j hj => ?_⟩, fun j => ?_⟩
  · match j, hj with
    | 0, _ => simp [World.cell?_alloc_new]
  · match j with
    | 0 => exact ha
    | _ + 1 => exact ⟨by simp, by simp⟩
/-- A group in its box, and an empty pair behind it. -/
theorem par_pair (w : World) (P Q G H : Int) (ra : Option Addr) (rn rc : Nat) : ∃ W bx by_, (w.alloc (.cells #[.int .u64 P, .int .u64 Q, .int .u64 G, .int .u64 H, .slice ra rn rc] 25)).alloc (.cells #[.int .u64 0, .int .u64 0] 27) = W ∧ w.heap.size = bx ∧ bx + 1 = by_ ∧
    BoxS w bx P Q G H ra rn rc W ∧ PairAt W by_ (.int .u64 0) (.int .u64 0) := by
  obtain ⟨W1, bx, e1, e2, hS, c0, c1, c2, c3, c4⟩ := par_box w P Q G H (.slice ra rn rc)
  have hS1 : Same W1 (W1.alloc (.cells #[.int .u64 0, .int .u64 0] 27)) := (Same.refl W1).alloc _
  have hz : W1.heap.size = bx + 1 := by rw [← e1, ← e2]; simp
  refine ⟨_, bx, bx + 1, by rw [e1], e2, rfl, ⟨same_cell hS1 c0, same_cell hS1 c1, same_cell hS1 c2, same_cell hS1 c3, same_cell hS1 c4, hS.trans hS1⟩, ?_⟩
  rw [← hz]
  exact ⟨by simp [World.cell?_alloc_new], by simp [World.cell?_alloc_new], by simp [World.frozen?_alloc_new], by simp [World.frozen?_alloc_new]⟩
end Go.Proofs.Ytfoncfojljmimaa
