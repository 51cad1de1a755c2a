/- Layer 10: what was read, as it stands in memory. -/
import Derived.Test.YtdbhcdhenapfoaaSameX
import Derived.Test.YtdbhcdhenapfoaaLaw10L
set_option linter.unusedVariables false
set_option linter.unusedSimpArgs false
namespace Go.Proofs.Ytdbhcdhenapfoaa
open Go.RowKit Go.Maps
theorem ownsRow_cells {w : World} {base size n n' c : Nat} {e : TypeId} {a : Option Addr} {xs : List Value} (h : w.ownsRow base e size (.slice a n' c) n xs) : n' = n ∧ n ≤ 9223372036854775807 ∧ (0 < n → ∃ g, a = some ⟨g, 0, none⟩ ∧ ∀ j, j < n * size → w.cell? ⟨g, j, none⟩ = xs[j]?) := by
  obtain ⟨hl, ⟨h1, h2⟩ | ⟨g, cap, cur, hv, hbs, hh, hn, hm, hs, ht⟩⟩ := h
  · obtain ⟨e1, e2, e3⟩ := Value.slice.inj h1
    subst e2 h2
    exact ⟨rfl, by omega, fun h => by omega⟩
  · obtain ⟨e1, e2, e3⟩ := Value.slice.inj hv
    subst e1 e2 e3
    refine ⟨rfl, by unfold maxLen at hm; omega, fun _ => ⟨g, rfl, fun j hj => ?_⟩⟩
    rw [cell_at hh, ← ht, List.getElem?_take_of_lt hj]
    simp
theorem OwnL.lets {w : World} {lo : Nat} {a : Option Addr} {n c : Nat} {ls : List LetterD} (h : OwnL w lo (.slice a n c) ls) (hu : ∀ l ∈ ls, ∀ x ∈ l.1, U64 x) : LetsAt w a n ls := by
  obtain ⟨vs, h1, h2⟩ := h.ex
  obtain ⟨e, hs, hc⟩ := ownsRow_cells h1
  subst e
  refine ⟨rfl, hs, fun j hj => ?_⟩
  obtain ⟨g, ea, hg⟩ := hc (by omega)
  obtain ⟨x0, x1, x2, x3, x4, x5, a1, n1, c1, a2, n2, c2, e1, e2, o1, o2⟩ := h2.at j hj
  refine ⟨g, 0, x0, x1, x2, x3, x4, x5, a1, n1, c1, a2, n2, c2, ea, e1, ?_, fun i hi => ?_, own_ints o1, own_ints o2⟩
  · rw [← e1]; exact hu _ (getD_mem hj)
  · rw [Nat.zero_add, hg _ (by omega)]
    exact e2 i hi
theorem flat6 : ∀ (bs : List (List Int)), (∀ b ∈ bs, b.length = 6) → ∀ j i, j < bs.length → i < 6 → (bs.flatMap fun b => b.map (Value.int .u64))[j * 6 + i]? = ((bs.getD j []).map (Value.int .u64))[i]?
  | [], _, j, i, hj, _ => by simp at hj
  | b :: bs, h, j, i, hj, hi => by
    have hb : (b.map (Value.int .u64)).length = 6 := by rw [List.length_map]; exact h b List.mem_cons_self
    rw [List.flatMap_cons]
    cases j with
    | zero => rw [Nat.zero_mul, Nat.zero_add, List.getElem?_append_left (by omega)]; rfl
    | succ j =>
      rw [List.getElem?_append_right (by omega), hb, show (j + 1) * 6 + i - 6 = j * 6 + i by omega]
      exact flat6 bs (fun c hc => h c (List.mem_cons_of_mem _ hc)) j i (by simpa using hj) hi
theorem OwnB.boxes {w : World} {lo : Nat} {a : Option Addr} {n c : Nat} {bs : List (List Int)} (h : OwnB w lo (.slice a n c) bs) (hu : ∀ l ∈ bs, ∀ x ∈ l, U64 x) : BoxesAt w a n bs := by
  obtain ⟨e, hs, hc⟩ := ownsRow_cells h.row
  subst e
  refine ⟨rfl, hs, fun j hj => ?_⟩
  obtain ⟨g, ea, hg⟩ := hc (by omega)
  obtain ⟨x0, x1, x2, x3, x4, x5, e1⟩ := Go.Proofs.Ytdbhcdhenapfoaa.six (h.six _ (getD_mem (d := ([] : List Int)) hj))
  refine ⟨g, 0, x0, x1, x2, x3, x4, x5, ea, e1, ?_, fun i hi => ?_⟩
  · rw [← e1]; exact hu _ (getD_mem hj)
  · rw [Nat.zero_add, hg _ (by omega), flat6 bs h.six j i hj hi, e1]
    rfl
theorem MixO.into {w : World} {lo : Nat} {a0 a1 a2 a3 a4 a5 a6 : Option Addr} {n0 c0 n1 c1 n2 c2 n3 c3 n4 c4 n5 c5 n6 c6 : Nat} {x : MixD} (hok : mixC.ok x)
    (h : MixO w lo (.slice a0 n0 c0) (.slice a1 n1 c1) (.slice a2 n2 c2) (.slice a3 n3 c3) (.slice a4 n4 c4) (.slice a5 n5 c5) (.slice a6 n6 c6) x.1 x.2.1 x.2.2.1 x.2.2.2.1 x.2.2.2.2.1 x.2.2.2.2.2.1 x.2.2.2.2.2.2) :
    MixIn w a0 n0 a1 n1 a2 n2 a3 n3 a4 n4 a5 n5 a6 n6 x :=
  ⟨h.o0.lets (fun l hl => (hok.1.2 l hl).1.2), h.o1.boxes (fun l hl => (hok.2.1.2 l hl).2), own_ints h.o2, own_ints h.o3, own_ints h.o4, own_ints h.o5, own_ints h.o6⟩
end Go.Proofs.Ytdbhcdhenapfoaa
