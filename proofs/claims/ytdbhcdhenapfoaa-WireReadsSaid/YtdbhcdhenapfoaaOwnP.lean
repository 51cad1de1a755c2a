/- Layer 10: what was read of what is passed, as it stands in memory. -/
import Derived.Test.YtdbhcdhenapfoaaSameG
import Derived.Test.YtdbhcdhenapfoaaOwnX
set_option linter.unusedVariables false
set_option linter.unusedSimpArgs false
namespace Go.Proofs.Ytdbhcdhenapfoaa
open Go.RowKit Go.Maps
theorem PasV.at {w : World} {lo : Nat} {vs : List Value} {ls : List PassD} (h : PasV w lo vs ls) : ∀ i, i < ls.length → ∃ ss, (∀ j, j < 15 → vs[i * 15 + j]? = ((ls.getD i ([], [])).1.map (Value.int .u64) ++ ss)[j]?) ∧ PrV w lo ss (ls.getD i ([], [])).2 ∧ (ls.getD i ([], [])).1.length = 9 ∧ (ls.getD i ([], [])).2.length = 3 := by
  induction h with
  | nil => intro i hi; simp at hi
  | @snoc vs ss ls x h h9 h3 o ih =>
    intro i hi
    have hl := h.len
    by_cases hlt : i < ls.length
    · obtain ⟨s2, k1, k2, k3, k4⟩ := ih i hlt
      have eg : (ls ++ [x]).getD i ([], []) = ls.getD i ([], []) := by simp [List.getD, List.getElem?_append, hlt]
      rw [eg]
      exact ⟨s2, fun j hj => by rw [List.getElem?_append_left (by omega)]; exact k1 j hj, k2, k3, k4⟩
    · obtain rfl : i = ls.length := by rw [List.length_append] at hi; simp at hi; omega
      have eg : (ls ++ [x]).getD ls.length ([], []) = x := by simp [List.getD]
      rw [eg]
      exact ⟨ss, fun j hj => by rw [List.getElem?_append_right (by omega), hl, Nat.add_sub_cancel_left], o, h9, h3⟩
theorem OwnP.into {w : World} {lo : Nat} {a : Option Addr} {n c : Nat} {ls : List PassD} (h : OwnP w lo (.slice a n c) ls) (hu : ∀ l ∈ ls, ∀ x ∈ l.1, U64 x) : PassAt w a n ls := by
  obtain ⟨vs, h1, h2⟩ := h.ex
  obtain ⟨e, hs, hc⟩ := ownsRow_cells h1
  subst e
  refine ⟨rfl, hs, fun j hj => ?_⟩
  obtain ⟨g, ea, hg⟩ := hc (by omega)
  obtain ⟨ss, e1, o, h9, h3⟩ := h2.at j hj
  have hu2 := hu _ (getD_mem (d := (([], []) : PassD)) hj)
  obtain ⟨⟨xs, qs⟩, hx⟩ : ∃ y, ls.getD j ([], []) = y := ⟨_, rfl⟩
  rw [hx] at e1 o h9 h3 hu2
  simp only at e1 o h9 h3 hu2
  obtain ⟨x0, x1, x2, x3, x4, x5, x6, x7, x8, rfl⟩ := nine h9
  obtain ⟨p0, m0, d0, p1, m1, d1, p2, m2, d2, p3, m3, d3, p4, m4, d4, p5, m5, d5, q0, q1, q2, rfl, rfl, o0, o1, o2, o3, o4, o5⟩ := o.three h3
  refine ⟨g, 0, x0, x1, x2, x3, x4, x5, x6, x7, x8, p0, m0, d0, p1, m1, d1, p2, m2, d2, p3, m3, d3, p4, m4, d4, p5, m5, d5, q0, q1, q2, ea, hx, hu2, fun i hi => ?_, own_ints o0, own_ints o1, own_ints o2, own_ints o3, own_ints o4, own_ints o5⟩
  rw [Nat.zero_add, hg _ (by omega)]
  exact e1 i hi
end Go.Proofs.Ytdbhcdhenapfoaa
