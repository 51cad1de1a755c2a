/- Layer 5's arguments out of their reading. -/
import Derived.Test.YtfoncfojljmimaaOpenP
set_option linter.unusedVariables false
set_option linter.unusedSimpArgs false
namespace Go.Proofs.Ytfoncfojljmimaa
open Go.RowKit
section
variable {H : Type} {enc : TypeId × Value → H} {W : World}
theorem rd_pair {cs : List Value} (h : Rd enc W 27 cs) : ∃ u0 u1 : Int, cs = [.int .u64 u0, .int .u64 u1] ∧ U64 u0 ∧ U64 u1 := by
  obtain ⟨hlen, hf⟩ := rd_struct Try.underlying27 h
  rw [show Try.prog.cellsOf 27 = 2 by kernel_rfl] at hlen
  match cs, hlen with
  | [c0, c1], _ =>
    have h0 : Rd enc W 22 (([c0, c1].drop 0).take (Try.prog.cellsOf 22)) := hf 0 _ rfl
    have h1 : Rd enc W 22 (([c0, c1].drop 1).take (Try.prog.cellsOf 22)) := hf 1 _ rfl
    rw [cells_u64] at h0 h1
    obtain ⟨x0, e0, w0⟩ := rd_u64 h0
    obtain ⟨x1, e1, w1⟩ := rd_u64 h1
    simp at e0 e1
    subst e0 e1
    exact ⟨_, _, rfl, w0, w1⟩
theorem rd_three {cs : List Value} (h : Rd enc W 49 cs) : ∃ u0 u1 u2 : Int, cs = [.int .u64 u0, .int .u64 u1, .int .u64 u2] ∧ U64 u0 ∧ U64 u1 ∧ U64 u2 := by
  obtain ⟨hlen, hf⟩ := rd_struct Try.underlying49 h
  rw [show Try.prog.cellsOf 49 = 3 by kernel_rfl] at hlen
  match cs, hlen with
  | [c0, c1, c2], _ =>
    have h0 : Rd enc W 22 (([c0, c1, c2].drop 0).take (Try.prog.cellsOf 22)) := hf 0 _ rfl
    have h1 : Rd enc W 22 (([c0, c1, c2].drop 1).take (Try.prog.cellsOf 22)) := hf 1 _ rfl
    have h2 : Rd enc W 22 (([c0, c1, c2].drop 2).take (Try.prog.cellsOf 22)) := hf 2 _ rfl
    rw [cells_u64] at h0 h1 h2
    obtain ⟨x0, e0, w0⟩ := rd_u64 h0
    obtain ⟨x1, e1, w1⟩ := rd_u64 h1
    obtain ⟨x2, e2, w2⟩ := rd_u64 h2
    simp at e0 e1 e2
    subst e0 e1 e2
    exact ⟨_, _, _, rfl, w0, w1, w2⟩
theorem rd_four {cs : List Value} (h : Rd enc W 38 cs) : ∃ u0 u1 u2 u3 : Int, cs = [.int .u64 u0, .int .u64 u1, .int .u64 u2, .int .u64 u3] ∧ U64 u0 ∧ U64 u1 ∧ U64 u2 ∧ U64 u3 := by
  obtain ⟨hlen, hf⟩ := rd_array Try.underlying38 h
  rw [show Try.prog.cellsOf 38 = 4 by kernel_rfl] at hlen
  rw [cells_u64] at hf
  match cs, hlen with
  | [c0, c1, c2, c3], _ =>
    have h0 := hf 0 (by omega)
    have h1 := hf 1 (by omega)
    have h2 := hf 2 (by omega)
    have h3 := hf 3 (by omega)
    obtain ⟨x0, e0, w0⟩ := rd_u64 h0
    obtain ⟨x1, e1, w1⟩ := rd_u64 h1
    obtain ⟨x2, e2, w2⟩ := rd_u64 h2
    obtain ⟨x3, e3, w3⟩ := rd_u64 h3
    simp at e0 e1 e2 e3
    subst e0 e1 e2 e3
    exact ⟨_, _, _, _, rfl, w0, w1, w2, w3⟩
theorem rd_tri {cs : List Value} (h : Rd enc W 43 cs) : ∃ u0 u1 u2 : Int, cs = [.int .u64 u0, .int .u64 u1, .int .u64 u2] ∧ U64 u0 ∧ U64 u1 ∧ U64 u2 := by
  obtain ⟨hlen, hf⟩ := rd_array Try.underlying43 h
  rw [show Try.prog.cellsOf 43 = 3 by kernel_rfl] at hlen
  rw [cells_u64] at hf
  match cs, hlen with
  | [c0, c1, c2], _ =>
    have h0 := hf 0 (by omega)
    have h1 := hf 1 (by omega)
    have h2 := hf 2 (by omega)
    obtain ⟨x0, e0, w0⟩ := rd_u64 h0
    obtain ⟨x1, e1, w1⟩ := rd_u64 h1
    obtain ⟨x2, e2, w2⟩ := rd_u64 h2
    simp at e0 e1 e2
    subst e0 e1 e2
    exact ⟨_, _, _, rfl, w0, w1, w2⟩
theorem rd_pairs {cs : List Value} (h : Rd enc W 28 cs) : ∃ u0 u1 u2 u3 : Int, cs = [.int .u64 u0, .int .u64 u1, .int .u64 u2, .int .u64 u3] ∧ U64 u0 ∧ U64 u1 ∧ U64 u2 ∧ U64 u3 := by
  obtain ⟨hlen, hf⟩ := rd_array Try.underlying28 h
  rw [show Try.prog.cellsOf 28 = 4 by kernel_rfl] at hlen
  rw [show Try.prog.cellsOf 27 = 2 by kernel_rfl] at hf
  match cs, hlen with
  | [c0, c1, c2, c3], _ =>
    obtain ⟨x0, x1, e0, w0, w1⟩ := rd_pair (hf 0 (by omega))
    obtain ⟨x2, x3, e1, w2, w3⟩ := rd_pair (hf 1 (by omega))
    simp at e0 e1
    obtain ⟨e0, e2⟩ := e0
    obtain ⟨e1, e3⟩ := e1
    subst e0 e1 e2 e3
    exact ⟨_, _, _, _, rfl, w0, w1, w2, w3⟩
theorem rd_two {cs : List Value} (h : Rd enc W 46 cs) : ∃ a n ca xs b m cb ys, cs = [.slice a n ca, .slice b m cb] ∧ n ≤ ca ∧ ca ≤ 9223372036854775807 ∧ m ≤ cb ∧ cb ≤ 9223372036854775807 ∧ IntsAt W a n xs ∧ IntsAt W b m ys := by
  obtain ⟨hlen, hf⟩ := rd_array Try.underlying46 h
  rw [show Try.prog.cellsOf 46 = 2 by kernel_rfl] at hlen
  rw [cells_ints] at hf
  match cs, hlen with
  | [c0, c1], _ =>
    obtain ⟨a, n, ca, xs, e0, l0, m0, i0⟩ := rd_ints (hf 0 (by omega))
    obtain ⟨b, m, cb, ys, e1, l1, m1, i1⟩ := rd_ints (hf 1 (by omega))
    simp at e0 e1
    subst e0 e1
    exact ⟨_, _, _, _, _, _, _, _, rfl, l0, m0, l1, m1, i0, i1⟩
end
end Go.Proofs.Ytfoncfojljmimaa
