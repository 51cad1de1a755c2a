/- A group out of its reading. -/
import Derived.Test.YtfoncfojljmimaaOpen
set_option linter.unusedVariables false
set_option linter.unusedSimpArgs false
namespace Go.Proofs.Ytfoncfojljmimaa
open Go.RowKit
section
variable {H : Type} {enc : TypeId × Value → H} {W : World}
theorem wf_U64 {x : Int} (h : (Lit.int .u64 x).wf = true) : U64 x := by
  have hb := bounds_u64 h
  exact ⟨hb.1, by omega⟩
theorem cells_rows : Try.prog.cellsOf 23 = 1 := by kernel_rfl
theorem cells_params : Try.prog.cellsOf 25 = 5 := by kernel_rfl
theorem rd_params {cs : List Value} (h : Rd enc W 25 cs) : ∃ (P Q G K : Int) (ra : Option Addr) (rn rc : Nat) (rs : List RowD),
    cs = [.int .u64 P, .int .u64 Q, .int .u64 G, .int .u64 K, .slice ra rn rc] ∧ U64 P ∧ U64 Q ∧ U64 G ∧ U64 K ∧ RowsAt W ra rn rs := by
  obtain ⟨hlen, hf⟩ := rd_struct Try.underlying25 h
  rw [cells_params] at hlen
  match cs, hlen with
  | [d0, d1, d2, d3, d4], _ =>
    have h0 : Rd enc W 22 (([d0, d1, d2, d3, d4].drop 0).take (Try.prog.cellsOf 22)) := hf 0 _ rfl
    have h1 : Rd enc W 22 (([d0, d1, d2, d3, d4].drop 1).take (Try.prog.cellsOf 22)) := hf 1 _ rfl
    have h2 : Rd enc W 22 (([d0, d1, d2, d3, d4].drop 2).take (Try.prog.cellsOf 22)) := hf 2 _ rfl
    have h3 : Rd enc W 22 (([d0, d1, d2, d3, d4].drop 3).take (Try.prog.cellsOf 22)) := hf 3 _ rfl
    have h4 : Rd enc W 23 (([d0, d1, d2, d3, d4].drop 4).take (Try.prog.cellsOf 23)) := hf 4 _ rfl
    rw [cells_u64] at h0 h1 h2 h3
    rw [cells_rows] at h4
    obtain ⟨x0, e0, u0⟩ := rd_u64 h0
    obtain ⟨x1, e1, u1⟩ := rd_u64 h1
    obtain ⟨x2, e2, u2⟩ := rd_u64 h2
    obtain ⟨x3, e3, u3⟩ := rd_u64 h3
    obtain ⟨ra, rn, rc, rs, e4, _, _, hr⟩ := rd_rows h4
    simp at e0 e1 e2 e3 e4
    subst e0 e1 e2 e3 e4
    exact ⟨_, _, _, _, _, _, _, rs, rfl, u0, u1, u2, u3, hr⟩
theorem rd_array {t e : TypeId} {n : Nat} (ht : Try.prog.underlying t = some (.array n e)) {cs : List Value} (h : Rd enc W t cs) :
    cs.length = Try.prog.cellsOf t ∧ ∀ i, i < n → Rd enc W e ((cs.drop (i * Try.prog.cellsOf e)).take (Try.prog.cellsOf e)) := by
  obtain ⟨fuel, x, h⟩ := h
  obtain ⟨xs, m, _, _, hlen, hxl, hf⟩ := DataW.trod_array ht h
  refine ⟨hlen, fun i hi => ?_⟩
  exact ⟨m, xs[i]'(by omega), by rw [hf i hi]; exact List.getElem?_eq_getElem (by omega)⟩
end
end Go.Proofs.Ytfoncfojljmimaa
