/- From the reading of an argument to what stands in memory. -/
import Derived.Test.YtfoncfojljmimaaRead
import Derived.Test.YtfoncfojljmimaaProg
import Derived.Deep.Slices
import Derived.OpenShut
import Derived.ProofKit
set_option linter.unusedVariables false
set_option linter.unusedSimpArgs false
namespace Go.Proofs.Ytfoncfojljmimaa
open Go.RowKit Go.ChangeShapes Go.WideShapes Go.Deep
theorem okWide_array {P : Program} {w : World} {r : Reach} {base : Nat} {t : TypeId} {v : Value} {n : Nat} {e : TypeId} (ht : P.underlying t = some (.array n e)) (h : Value.okWide P w r base t v) : ∃ cs, v = .agg cs ∧ cs.size = P.cellsOf t := by
  simp only [Value.okWide, ht] at h
  obtain ⟨cs, h1, h2, _⟩ := h
  exact ⟨cs, h1, h2⟩
/-- The argument's cells, read whole. -/
abbrev Rd {H : Type} (enc : TypeId × Value → H) (W : World) (t : TypeId) (cs : List Value) : Prop := ∃ fuel x, DataW.trod enc Try.prog W 0 (fun _ => true) true fuel t cs = some x
theorem cells_u64 : Try.prog.cellsOf 22 = 1 := by kernel_rfl
theorem cells_row : Try.prog.cellsOf 57 = 3 := by kernel_rfl
theorem cells_ints : Try.prog.cellsOf 34 = 1 := by kernel_rfl
section
variable {H : Type} {enc : TypeId × Value → H} {W : World}
theorem rd_u64 {cs : List Value} (h : Rd enc W 22 cs) : ∃ n, cs = [.int .u64 n] ∧ U64 n := by
  obtain ⟨fuel, x, h⟩ := h
  obtain ⟨n, e, _, hw⟩ := DataW.trod_int Try.underlying22 h
  have hb := bounds_u64 hw
  exact ⟨n, e, hb.1, by omega⟩
/-- A slice, element by element. -/
theorem rd_slice {t e : TypeId} {c : Nat} (ht : Try.prog.underlying t = some (.slice e)) (hc : Try.prog.cellsOf e = c) {cs : List Value} (h : Rd enc W t cs) :
    ∃ a n cap, cs = [.slice a n cap] ∧ n ≤ cap ∧ cap ≤ 9223372036854775807 ∧ ∀ i, i < n → ∃ ad cs', a = some ad ∧ cs'.length = c ∧ (∀ j, j < c → W.cell? (ad.add (i * c + j)) = cs'[j]?) ∧ Rd enc W e cs' := by
  obtain ⟨fuel, x, h⟩ := h
  rcases open_slice ht h with ⟨e, _⟩ | ⟨a, len, cap, m, n, D, Pl, hcs, hb, hl, hm, hmm, hx, hi⟩
  · exact ⟨none, 0, 0, e, by omega, by omega, fun i hi => by omega⟩
  · simp only [if_true] at hmm
    refine ⟨some a, len, cap, hcs, hl, hm, fun i hlt => ?_⟩
    obtain ⟨cs', h1, h2⟩ := hi i (by omega)
    rw [hc] at h1
    obtain ⟨_, h3, h4⟩ := World.cells?_some h1
    exact ⟨a, cs', rfl, h3, fun j hj => by rw [← Go.Deep.add_add]; exact h4 j hj, _, _, h2⟩
theorem plain_of {ad : Addr} {v : Value} (h : W.cell? ad = some v) : ∃ b off, ad = ⟨b, off, none⟩ := by
  obtain ⟨b, off, spot⟩ := ad
  have hs : spot = none := World.cell?_spot h
  subst hs
  exact ⟨b, off, rfl⟩
theorem rd_ints {cs : List Value} (h : Rd enc W 34 cs) : ∃ a n cap xs, cs = [.slice a n cap] ∧ n ≤ cap ∧ cap ≤ 9223372036854775807 ∧ IntsAt W a n xs := by
  obtain ⟨a, n, cap, hcs, hl, hm, hi⟩ := rd_slice Try.underlying34 (c := 1) cells_u64 h
  have hn : ∀ i, i < n → ∃ z : Int, U64 z ∧ ∃ ad, a = some ad ∧ W.cell? (ad.add i) = some (.int .u64 z) := by
    intro i hlt
    obtain ⟨ad, cs', ha, hlen, hcell, hrd⟩ := hi i hlt
    obtain ⟨z, e, hz⟩ := rd_u64 hrd
    refine ⟨z, hz, ad, ha, ?_⟩
    have := hcell 0 (by omega)
    rw [e] at this
    simpa using this
  obtain ⟨f, hf⟩ := Go.Deep.choose_lt hn
  refine ⟨a, n, cap, (List.range n).map f, hcs, hl, hm, by simp, by omega, fun h0 => ?_, fun j => ?_⟩
  · obtain ⟨_, ad, ha, hc0⟩ := hf 0 h0
    have hc0' : W.cell? ad = some (.int .u64 (f 0)) := by simpa [Addr.add] using hc0
    obtain ⟨b, off, e⟩ := plain_of hc0'
    subst e
    refine ⟨b, off, ha, fun j hj => ?_⟩
    obtain ⟨_, ad', ha', hc'⟩ := hf j hj
    rw [ha] at ha'
    obtain rfl := Option.some.inj ha'
    rw [Go.WideShapes.add_plain] at hc'
    rw [hc']
    simp [List.getD, hj]
  · by_cases hj : j < n
    · have := (hf j hj).1
      simpa [List.getD, hj] using this
    · simp [List.getD, hj, U64]
/-- A struct, field by field. -/
theorem rd_struct {t : TypeId} {fs : Array Field} (ht : Try.prog.underlying t = some (.struct fs)) {cs : List Value} (h : Rd enc W t cs) :
    cs.length = Try.prog.cellsOf t ∧ ∀ (i : Nat) (f : Field), fs[i]? = some f → Rd enc W f.type ((cs.drop f.offset).take (Try.prog.cellsOf f.type)) := by
  obtain ⟨fuel, x, h⟩ := h
  obtain ⟨xs, n, _, _, hlen, hxl, hf⟩ := DataW.trod_struct ht h
  refine ⟨hlen, fun i f hi => ?_⟩
  have hlt : i < xs.length := by rw [hxl]; exact (Array.getElem?_eq_some_iff.1 hi).1
  exact ⟨n, xs[i], by rw [hf i f hi]; exact List.getElem?_eq_getElem hlt⟩
theorem rd_row {cs : List Value} (h : Rd enc W 57 cs) : ∃ (r : RowD) (fa : Option Addr) (fn fc : Nat), cs = [.int .u64 r.n, .int .u64 r.a, .slice fa fn fc] ∧ U64 r.n ∧ U64 r.a ∧ IntsAt W fa fn r.f := by
  obtain ⟨hlen, hf⟩ := rd_struct Try.underlying57 h
  rw [cells_row] at hlen
  match cs, hlen with
  | [c0, c1, c2], _ =>
    have h0 : Rd enc W 22 (([c0, c1, c2].drop 0).take (Try.prog.cellsOf 22)) := hf 0 _ rfl
    have h1 : Rd enc W 22 (([c0, c1, c2].drop 1).take (Try.prog.cellsOf 22)) := hf 1 _ rfl
    have h2 : Rd enc W 34 (([c0, c1, c2].drop 2).take (Try.prog.cellsOf 34)) := hf 2 _ rfl
    rw [cells_u64] at h0 h1
    rw [cells_ints] at h2
    obtain ⟨n, e0, u0⟩ := rd_u64 h0
    obtain ⟨a, e1, u1⟩ := rd_u64 h1
    obtain ⟨fa, fn, fc, xs, e2, _, _, hx⟩ := rd_ints h2
    simp at e0 e1 e2
    subst e0 e1 e2
    exact ⟨⟨n, a, xs⟩, fa, fn, fc, rfl, u0, u1, hx⟩
theorem rd_rows {cs : List Value} (h : Rd enc W 23 cs) : ∃ a n cap rs, cs = [.slice a n cap] ∧ n ≤ cap ∧ cap ≤ 9223372036854775807 ∧ RowsAt W a n rs := by
  obtain ⟨a, n, cap, hcs, hl, hm, hi⟩ := rd_slice Try.underlying23 (c := 3) cells_row h
  have hn : ∀ i, i < n → ∃ r : RowD, ∃ ad, a = some ad ∧ U64 r.n ∧ U64 r.a ∧ W.cell? (ad.add (i * 3)) = some (.int .u64 r.n) ∧ W.cell? (ad.add (i * 3 + 1)) = some (.int .u64 r.a) ∧
      ∃ fa fn fc, W.cell? (ad.add (i * 3 + 2)) = some (.slice fa fn fc) ∧ IntsAt W fa fn r.f := by
    intro i hlt
    obtain ⟨ad, cs', ha, hlen, hcell, hrd⟩ := hi i hlt
    obtain ⟨r, fa, fn, fc, e, u0, u1, hx⟩ := rd_row hrd
    have c0 := hcell 0 (by omega)
    have c1 := hcell 1 (by omega)
    have c2 := hcell 2 (by omega)
    rw [e] at c0 c1 c2
    exact ⟨r, ad, ha, u0, u1, by simpa using c0, by simpa using c1, fa, fn, fc, by simpa using c2, hx⟩
  obtain ⟨f, hf⟩ := Go.Deep.choose_lt hn
  refine ⟨a, n, cap, (List.range n).map f, hcs, hl, hm, by simp, by omega, fun h0 => ?_⟩
  obtain ⟨ad, ha, _, _, hc0, _⟩ := hf 0 h0
  have hc0' : W.cell? ad = some (.int .u64 (f 0).n) := by simpa [Addr.add] using hc0
  obtain ⟨b, off, e⟩ := plain_of hc0'
  subst e
  refine ⟨b, off, ha, fun j hj => ?_⟩
  obtain ⟨ad', ha', u0, u1, g0, g1, fa, fn, fc, g2, hx⟩ := hf j hj
  rw [ha] at ha'
  obtain rfl := Option.some.inj ha'
  rw [Go.WideShapes.add_plain] at g0 g1 g2
  have e : ((List.range n).map f).getD j default = f j := by simp [List.getD, hj]
  rw [e]
  exact ⟨g0, by rw [Nat.add_assoc]; exact g1, ⟨fa, fn, fc, by rw [Nat.add_assoc]; exact g2, hx⟩, u0, u1⟩
end
end Go.Proofs.Ytfoncfojljmimaa
