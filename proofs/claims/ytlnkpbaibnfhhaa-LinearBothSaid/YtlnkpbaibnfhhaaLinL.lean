/- A list of numbers that the call itself makes and stores into. -/
import Derived.Test.YtlnkpbaibnfhhaaLinR
import Derived.Test.YtlnkpbaibnfhhaaW5
import Derived.OwnWalk
import Derived.Deep.RegionHeld
set_option linter.unusedVariables false
set_option linter.unusedSimpArgs false
namespace Go.Proofs.Ytlnkpbaibnfhhaa
open Go.RowKit
structure LsAt (w : World) (lx : Nat) (xs : List Int) : Prop where
  cells : ∀ i, i < xs.length → w.cell? ⟨lx, i, none⟩ = some (.int .u64 (xs.getD i 0)) ∧ w.frozen? ⟨lx, i, none⟩ = false
theorem LsAt.same {w w' : World} {lx : Nat} {xs : List Int} (h : LsAt w lx xs) (hs : Same w w') : LsAt w' lx xs :=
  ⟨fun i hi => ⟨same_cell hs (h.cells i hi).1, (hs.frozen (World.block_lt_of_cell? w _ (h.cells i hi).1)).trans (h.cells i hi).2⟩⟩
theorem LsAt.set {w : World} {lx : Nat} {xs : List Int} (h : LsAt w lx xs) {j : Nat} (hj : j < xs.length) (v : Int) : LsAt (w.setCell ⟨lx, j, none⟩ (.int .u64 v)) lx (xs.set j v) := by
  refine ⟨fun i hi => ?_⟩
  rw [List.length_set] at hi
  refine ⟨?_, by rw [World.frozen?_setCell]; exact (h.cells i hi).2⟩
  by_cases e : i = j
  · subst e
    rw [World.cell?_setCell_same _ _ _ (h.cells i hi).1]
    simp [List.getD, hi]
  · rw [World.cell?_setCell_other _ _ _ _ (by first | (simp; done) | (simp; omega)), (h.cells i hi).1]
    simp [List.getD, List.getElem?_set, e, show ¬ j = i by omega]
theorem LsAt.ints {w : World} {lx : Nat} {xs : List Int} (h : LsAt w lx xs) (hs : xs.length ≤ 9223372036854775807) (hu : ∀ x ∈ xs, U64 x) : IntsAt w (some ⟨lx, 0, none⟩) xs.length xs := by
  refine ⟨rfl, hs, fun h0 => ⟨lx, 0, rfl, fun j hj => by rw [Nat.zero_add]; exact (h.cells j hj).1⟩, fun j => ?_⟩
  by_cases hj : j < xs.length
  · rw [show xs.getD j 0 = xs[j] by simp [List.getD, hj]]
    exact hu _ (List.getElem_mem hj)
  · rw [show xs.getD j 0 = 0 by simp [List.getD, List.getElem?_eq_none (show xs.length ≤ j by omega)]]
    exact ⟨by decide, by decide⟩
theorem made_ls {w : World} {base lx n : Nat} (h : w.ownsRow base 22 1 (.slice (some ⟨lx, 0, none⟩) n n) n (madeCells (Value.int .u64 0).cells (n * 1)).toList) : LsAt w lx (List.replicate n 0) := by
  refine ⟨fun i hi => ?_⟩
  rw [List.length_replicate] at hi
  refine ⟨?_, h.frozenAt i⟩
  have := h.cellAt i (by omega)
  rw [this, show (Value.int .u64 0).cells = #[Value.int .u64 0] from rfl, toList_madeCells_one]
  simp [List.getD, hi]
theorem same_made {w w' : World} (h : w.grownBy w' none) : Same w w' := ⟨h.os, h.tape, h.output, h.size, fun i hi => h.block i hi (by simp)⟩
theorem getD_set_same {xs : List Int} {j : Nat} (h : j < xs.length) (v : Int) : (xs.set j v).getD j 0 = v := by simp [List.getD, h]
theorem getD_set_ne {xs : List Int} {i j : Nat} (h : i ≠ j) (v : Int) : (xs.set j v).getD i 0 = xs.getD i 0 := by simp [List.getD, List.getElem?_set, show ¬ j = i by omega]
theorem list_ext {xs ys : List Int} (hl : xs.length = ys.length) (h : ∀ i, i < xs.length → xs.getD i 0 = ys.getD i 0) : xs = ys := by
  refine List.ext_getElem hl (fun i h1 h2 => ?_)
  have := h i h1
  simpa [List.getD, h1, h2] using this
theorem ClS.set {W0 w : World} {gx cx : Nat} {P Q G H : Int} {ra : Option Addr} {rn rc : Nat} {u v : Value} (h : ClS W0 gx cx P Q G H ra rn rc u v w) {b o : Nat} (hb : b ≠ gx) (hc : b ≠ cx) (hg : W0.heap.size ≤ b) (x : Value) : ClS W0 gx cx P Q G H ra rn rc u v (w.setCell ⟨b, o, none⟩ x) := by
  obtain ⟨k0, k1, c0, c1, c2, c3, c4, h5⟩ := h
  exact ⟨(World.cell?_setCell_far _ _ _ _ hc).trans k0, (World.cell?_setCell_far _ _ _ _ hc).trans k1, (World.cell?_setCell_far _ _ _ _ hb).trans c0, (World.cell?_setCell_far _ _ _ _ hb).trans c1, (World.cell?_setCell_far _ _ _ _ hb).trans c2, (World.cell?_setCell_far _ _ _ _ hb).trans c3, (World.cell?_setCell_far _ _ _ _ hb).trans c4, Below.setCell h5 hg x⟩
theorem ints_two (w : World) (t : TypeId) (a b : Int) (ha : U64 a) (hb : U64 b) : IntsAt (w.alloc (.cells #[.int .u64 a, .int .u64 b] t)) (some ⟨w.heap.size, 0, none⟩) 2 [a, b] := by
  refine ⟨rfl, by omega, fun _ => ⟨w.heap.size, 0, rfl, fun j hj => ?_⟩, fun j => ?_⟩
  · match j, hj with
    | 0, _ => simp [World.cell?_alloc_new]
    | 1, _ => simp [World.cell?_alloc_new]
  · match j with
    | 0 => exact ha
    | 1 => exact hb
    | _ + 2 => exact ⟨by simp, by simp⟩
theorem ints_nil (w : World) : IntsAt w none 0 [] := ⟨rfl, by omega, fun h => by omega, fun j => ⟨by simp, by simp⟩⟩
end Go.Proofs.Ytlnkpbaibnfhhaa
