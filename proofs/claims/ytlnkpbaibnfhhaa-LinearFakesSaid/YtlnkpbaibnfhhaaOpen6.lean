/- Layer 6's arguments out of their reading. -/
import Derived.Test.YtlnkpbaibnfhhaaW5
import Derived.Test.YtlnkpbaibnfhhaaLinR
set_option linter.unusedVariables false
set_option linter.unusedSimpArgs false
namespace Go.Proofs.Ytlnkpbaibnfhhaa
open Go.RowKit
section
variable {H : Type} {enc : TypeId × Value → H} {W : World}
theorem rd_mat {cs : List Value} (h : Rd enc W 27 cs) : ∃ a n cap m, cs = [.slice a n cap] ∧ n ≤ cap ∧ cap ≤ 9223372036854775807 ∧ MatAt W a n m := by
  obtain ⟨a, n, cap, hcs, hl, hm, hi⟩ := rd_slice Try.underlying27 (c := 1) cells_ints h
  have hn : ∀ i, i < n → ∃ xs : List Int, ∃ ad, a = some ad ∧ ∃ fa fn fc, W.cell? (ad.add i) = some (.slice fa fn fc) ∧ IntsAt W fa fn xs := by
    intro i hlt
    obtain ⟨ad, cs', ha, hlen, hcell, hrd⟩ := hi i hlt
    obtain ⟨fa, fn, fc, xs, e, _, _, hx⟩ := rd_ints hrd
    have c0 := hcell 0 (by omega)
    rw [e] at c0
    exact ⟨xs, ad, ha, fa, fn, fc, by simpa using c0, hx⟩
  obtain ⟨f, hf⟩ := Go.Deep.choose_lt hn
  refine ⟨a, n, cap, (List.range n).map f, hcs, hl, hm, by simp, by omega, fun h0 => ?_⟩
  obtain ⟨ad, ha, fa, fn, fc, hc0, _⟩ := hf 0 h0
  have hc0' : W.cell? ad = some (.slice fa fn fc) := by simpa [Addr.add] using hc0
  obtain ⟨b, off, e⟩ := plain_of hc0'
  subst e
  refine ⟨b, off, ha, fun j hj => ?_⟩
  obtain ⟨ad', ha', fa', fn', fc', g0, hx⟩ := hf j hj
  rw [ha] at ha'
  obtain rfl := Option.some.inj ha'
  rw [Go.WideShapes.add_plain] at g0
  have e : ((List.range n).map f).getD j [] = f j := by simp [List.getD, hj]
  rw [e]
  exact ⟨fa', fn', fc', g0, hx⟩
theorem rd_claim {cs : List Value} (h : Rd enc W 29 cs) : ∃ ta tn tc ts ba bn bc bs, cs = [.slice ta tn tc, .slice ba bn bc] ∧ IntsAt W ta tn ts ∧ MatAt W ba bn bs := by
  obtain ⟨hlen, hf⟩ := rd_struct Try.underlying29 h
  rw [show Try.prog.cellsOf 29 = 2 by kernel_rfl] at hlen
  match cs, hlen with
  | [c0, c1], _ =>
    have h0 : Rd enc W 26 (([c0, c1].drop 0).take (Try.prog.cellsOf 26)) := hf 0 _ rfl
    have h1 : Rd enc W 27 (([c0, c1].drop 1).take (Try.prog.cellsOf 27)) := hf 1 _ rfl
    rw [cells_ints] at h0
    rw [show Try.prog.cellsOf 27 = 1 by kernel_rfl] at h1
    obtain ⟨ta, tn, tc, ts, e0, _, _, ht⟩ := rd_ints h0
    obtain ⟨ba, bn, bc, bs, e1, _, _, hb⟩ := rd_mat h1
    simp at e0 e1
    subst e0 e1
    exact ⟨_, _, _, ts, _, _, _, bs, rfl, ht, hb⟩
theorem cells_talk : Try.prog.cellsOf 39 = 3 := by kernel_rfl
theorem rd_talk {cs : List Value} (h : Rd enc W 39 cs) : ∃ e xa xn xc xs ya yn yc ys, cs = [.int .u64 e, .slice xa xn xc, .slice ya yn yc] ∧ U64 e ∧ IntsAt W xa xn xs ∧ IntsAt W ya yn ys := by
  obtain ⟨hlen, hf⟩ := rd_struct Try.underlying39 h
  rw [cells_talk] at hlen
  match cs, hlen with
  | [c0, c1, c2], _ =>
    have h0 : Rd enc W 22 (([c0, c1, c2].drop 0).take (Try.prog.cellsOf 22)) := hf 0 _ rfl
    have h1 : Rd enc W 26 (([c0, c1, c2].drop 1).take (Try.prog.cellsOf 26)) := hf 1 _ rfl
    have h2 : Rd enc W 26 (([c0, c1, c2].drop 2).take (Try.prog.cellsOf 26)) := hf 2 _ rfl
    rw [cells_u64] at h0
    rw [cells_ints] at h1 h2
    obtain ⟨e, e0, u0⟩ := rd_u64 h0
    obtain ⟨xa, xn, xc, xs, e1, _, _, hx⟩ := rd_ints h1
    obtain ⟨ya, yn, yc, ys, e2, _, _, hy⟩ := rd_ints h2
    simp at e0 e1 e2
    subst e0 e1 e2
    exact ⟨_, _, _, _, xs, _, _, _, ys, rfl, u0, hx, hy⟩
theorem rd_talks {cs : List Value} (h : Rd enc W 45 cs) : ∃ e xa xn xc xs ya yn yc ys f ua un uc us va vn vc vs,
    cs = [.int .u64 e, .slice xa xn xc, .slice ya yn yc, .int .u64 f, .slice ua un uc, .slice va vn vc] ∧ U64 e ∧ IntsAt W xa xn xs ∧ IntsAt W ya yn ys ∧ U64 f ∧ IntsAt W ua un us ∧ IntsAt W va vn vs := by
  obtain ⟨hlen, hf⟩ := rd_array Try.underlying45 h
  rw [show Try.prog.cellsOf 45 = 6 by kernel_rfl] at hlen
  rw [cells_talk] at hf
  match cs, hlen with
  | [c0, c1, c2, c3, c4, c5], _ =>
    obtain ⟨e, xa, xn, xc, xs, ya, yn, yc, ys, e0, u0, hx, hy⟩ := rd_talk (hf 0 (by omega))
    obtain ⟨f, ua, un, uc, us, va, vn, vc, vs, e1, u1, hu, hv⟩ := rd_talk (hf 1 (by omega))
    simp at e0 e1
    obtain ⟨e0, e2, e3⟩ := e0
    obtain ⟨e1, e4, e5⟩ := e1
    subst e0 e2 e3 e1 e4 e5
    exact ⟨_, _, _, _, xs, _, _, _, ys, _, _, _, _, us, _, _, _, vs, rfl, u0, hx, hy, u1, hu, hv⟩
end
end Go.Proofs.Ytlnkpbaibnfhhaa
