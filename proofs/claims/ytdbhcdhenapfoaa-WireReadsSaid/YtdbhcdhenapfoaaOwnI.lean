/- A slice of uint64 that the call itself gathers by append. -/
import Derived.Test.YtdbhcdhenapfoaaRead
import Derived.Test.YtdbhcdhenapfoaaProg
import Derived.WalkKit
import Derived.Laws.OwnMore
set_option linter.unusedVariables false
set_option linter.unusedSimpArgs false
namespace Go.Proofs.Ytdbhcdhenapfoaa
open Go.RowKit
theorem info_u64 : (Try.prog.info? 33).map (fun i => (i.zero, i.size, i.bytes)) = some (some (.int .u64 0), 1, 8) := by kernel_rfl
abbrev vals (xs : List Int) : List Value := xs.map (Value.int .u64)
/-- the slice v owns the numbers xs, in a block from base on -/
structure OwnI (w : World) (base : Nat) (v : Value) (xs : List Int) : Prop where
  own : w.ownsRow base 33 1 v xs.length (vals xs)
  u : ∀ x ∈ xs, U64 x
  small : xs.length ≤ 9223372036854775807
theorem OwnI.nil (w : World) (base : Nat) : OwnI w base (.slice none 0 0) [] := ⟨World.ownsRow_nil _ _ _ _, fun x h => (by cases h), by simp⟩
theorem OwnI.ints {w : World} {base : Nat} {v : Value} {xs : List Int} (h : OwnI w base v xs) : ∃ a n cap, v = .slice a n cap ∧ IntsAt w a n xs := by
  have hb : ∀ j, U64 (xs.getD j 0) := fun j => by
    by_cases hj : j < xs.length
    · rw [show xs.getD j 0 = xs[j] by simp [List.getD, hj]]
      exact h.u _ (List.getElem_mem hj)
    · rw [show xs.getD j 0 = 0 by simp [List.getD, List.getElem?_eq_none (show xs.length ≤ j by omega)]]
      exact ⟨by decide, by decide⟩
  obtain ⟨hl, h1 | ⟨g, cap, cur, hv, hbs, hh, hn, hm, hs, ht⟩⟩ := h.own
  · exact ⟨none, 0, 0, h1.1, by omega, by omega, fun h0 => by omega, hb⟩
  · have hown := h.own
    rw [hv] at hown
    refine ⟨some ⟨g, 0, none⟩, xs.length, cap, hv, rfl, h.small, fun h0 => ⟨g, 0, rfl, fun j hj => ?_⟩, hb⟩
    have := hown.cellAt j (by omega)
    rw [Nat.zero_add, this]
    simp [vals, List.getD, hj]
theorem OwnI.same {w w' : World} {base : Nat} {v : Value} {xs : List Int} (h : OwnI w base v xs) (hs : Same w w') : OwnI w' base v xs := by
  refine ⟨?_, h.u, h.small⟩
  obtain ⟨hl, h1 | ⟨g, cap, cur, hv, hbs, hh, hn, hm, hsz, ht⟩⟩ := h.own
  · exact ⟨hl, .inl h1⟩
  · refine ⟨hl, .inr ⟨g, cap, cur, hv, hbs, ?_, hn, hm, hsz, ht⟩⟩
    have hg : g < w.heap.size := (Array.getElem?_eq_some_iff.1 hh).1
    rw [hs.block g hg]; exact hh
theorem OwnI.push {w : World} {base : Nat} {v : Value} {xs : List Int} {x : Int} (hu : ∀ x ∈ xs, U64 x) (hx : U64 x) (hl : xs.length < 9223372036854775807)
    (h : w.ownsRow base 33 1 v (xs.length + 1) (vals xs ++ [.int .u64 x])) : OwnI w base v (xs ++ [x]) := by
  refine ⟨by simpa [vals] using h, fun z hz => ?_, by simp; omega⟩
  rcases List.mem_append.1 hz with hz | hz
  · exact hu z hz
  · rw [List.mem_singleton.1 hz]; exact hx
/-- one new cell -/
theorem one_new (w : World) (x : Value) (t : TypeId) : ∀ (j : Nat) (u : Value), [x][j]? = some u → (w.alloc (.cells #[x] t)).cell? ((⟨w.heap.size, 0, none⟩ : Addr).add j) = some u := by
  intro j u hj
  match j, hj with
  | 0, hj => simp at hj; subst hj; simp [Addr.add, World.cell?_alloc_new]
theorem one_cell (x : Int) : ∀ u ∈ [Value.int .u64 x], u.oneCell' = true := by
  intro u hu; simp at hu; subst hu; rfl
/-- behind an append: what lay below the row's own blocks is as it was -/
theorem same_grown {W wr w1 : World} {v : Value} {xs : List Int} {o : Obj} (hS : Same W wr) (hown : OwnI wr W.heap.size v xs) (hg : (wr.alloc o).grownBy w1 v.ownBlock) : Same W w1 := by
  have h1 := hS.alloc o
  refine Below.grown h1 hg (by have := h1.size; exact this) (fun k hk => ?_)
  exact (hown.own.lt k hk).1
end Go.Proofs.Ytdbhcdhenapfoaa
