/- Layer 10: arguments out of their reading. -/
import Derived.Test.YtdbhcdhenapfoaaLaw10L
import Derived.Deep.Slices
import Derived.OpenShut
import Derived.ProofKit
set_option linter.unusedVariables false
set_option linter.unusedSimpArgs false
namespace Go.Proofs.Ytdbhcdhenapfoaa
open Go.RowKit Go.ChangeShapes Go.WideShapes Go.Deep
theorem okWide_array {P : Program} {w : World} {r : Reach} {base : Nat} {t : TypeId} {v : Value} {n : Nat} {e : TypeId} (ht : P.underlying t = some (.array n e)) (h : Value.okWide P w r base t v) : ∃ cs, v = .agg cs ∧ cs.size = P.cellsOf t := by
  simp only [Value.okWide, ht] at h
  obtain ⟨cs, h1, h2, _⟩ := h
  exact ⟨cs, h1, h2⟩
/-- The argument's cells, read whole. -/
abbrev Rd {H : Type} (enc : TypeId × Value → H) (W : World) (t : TypeId) (cs : List Value) : Prop := ∃ fuel x, DataW.trod enc Try.prog W 0 (fun _ => true) true fuel t cs = some x
theorem cells_u64 : Try.prog.cellsOf 33 = 1 := by kernel_rfl
section
variable {H : Type} {enc : TypeId × Value → H} {W : World}
theorem rd_u64 {cs : List Value} (h : Rd enc W 33 cs) : ∃ n, cs = [.int .u64 n] ∧ U64 n := by
  obtain ⟨fuel, x, h⟩ := h
  obtain ⟨n, e, _, hw⟩ := DataW.trod_int Try.underlying33 h
  have hb := bounds_u64 hw
  exact ⟨n, e, hb.1, by omega⟩
/-- A slice, element by element. -/
theorem rd_slice {t e : TypeId} {c : Nat} (ht : Try.prog.underlying t = some (.slice e)) (hc : Try.prog.cellsOf e = c) {cs : List Value} (h : Rd enc W t cs) :
    ∃ a n cap, cs = [.slice a n cap] ∧ n ≤ cap ∧ cap ≤ 9223372036854775807 ∧ ∀ i, i < n → ∃ ad cs', a = some ad ∧ cs'.length = c ∧ (∀ j, j < c → W.cell? (ad.add (i * c + j)) = cs'[j]?) ∧ Rd enc W e cs' := by
  obtain ⟨fuel, x, h⟩ := h
  rcases open_slice ht h with ⟨e, _⟩ | ⟨a, len, cap, m, n, D, Pl, hcs, hb, hl, hm, hmm, hx, hi⟩
  · exact ⟨none, 0, 0, e, by omega, by omega, fun i hi => by omega⟩
  · simp only [if_true] at hmm
    refine ⟨some a, len, cap, hcs, hl, hm, fun i hlt => ?_⟩
    obtain ⟨cs', h1, h2⟩ := hi i (by omega)
    rw [hc] at h1
    obtain ⟨_, h3, h4⟩ := World.cells?_some h1
    exact ⟨a, cs', rfl, h3, fun j hj => by rw [← Go.Deep.add_add]; exact h4 j hj, _, _, h2⟩
theorem plain_of {ad : Addr} {v : Value} (h : W.cell? ad = some v) : ∃ b off, ad = ⟨b, off, none⟩ := by
  obtain ⟨b, off, spot⟩ := ad
  have hs : spot = none := World.cell?_spot h
  subst hs
  exact ⟨b, off, rfl⟩
/-- A struct, field by field. -/
theorem rd_struct {t : TypeId} {fs : Array Field} (ht : Try.prog.underlying t = some (.struct fs)) {cs : List Value} (h : Rd enc W t cs) :
    cs.length = Try.prog.cellsOf t ∧ ∀ (i : Nat) (f : Field), fs[i]? = some f → Rd enc W f.type ((cs.drop f.offset).take (Try.prog.cellsOf f.type)) := by
  obtain ⟨fuel, x, h⟩ := h
  obtain ⟨xs, n, _, _, hlen, hxl, hf⟩ := DataW.trod_struct ht h
  refine ⟨hlen, fun i f hi => ?_⟩
  have hlt : i < xs.length := by rw [hxl]; exact (Array.getElem?_eq_some_iff.1 hi).1
  exact ⟨n, xs[i], by rw [hf i f hi]; exact List.getElem?_eq_getElem hlt⟩
theorem rd_array {t e : TypeId} {n : Nat} (ht : Try.prog.underlying t = some (.array n e)) {cs : List Value} (h : Rd enc W t cs) :
    cs.length = Try.prog.cellsOf t ∧ ∀ i, i < n → Rd enc W e ((cs.drop (i * Try.prog.cellsOf e)).take (Try.prog.cellsOf e)) := by
  obtain ⟨fuel, x, h⟩ := h
  obtain ⟨xs, m, _, _, hlen, hxl, hf⟩ := DataW.trod_array ht h
  refine ⟨hlen, fun i hi => ?_⟩
  exact ⟨m, xs[i]'(by omega), by rw [hf i hi]; exact List.getElem?_eq_getElem (by omega)⟩
theorem wf_U64 {x : Int} (h : (Lit.int .u64 x).wf = true) : U64 x := by
  have hb := bounds_u64 h
  exact ⟨hb.1, by omega⟩
theorem cells_ints : Try.prog.cellsOf 24 = 1 := by kernel_rfl
theorem cells_pair : Try.prog.cellsOf 35 = 2 := by kernel_rfl
theorem cells_proof : Try.prog.cellsOf 26 = 2 := by kernel_rfl
theorem cells_boxw : Try.prog.cellsOf 37 = 6 := by kernel_rfl
theorem cells_let : Try.prog.cellsOf 39 = 8 := by kernel_rfl
theorem rd_ints {cs : List Value} (h : Rd enc W 24 cs) : ∃ a n cap xs, cs = [.slice a n cap] ∧ n ≤ cap ∧ cap ≤ 9223372036854775807 ∧ IntsAt W a n xs := by
  obtain ⟨a, n, cap, hcs, hl, hm, hi⟩ := rd_slice Try.underlying24 (c := 1) cells_u64 h
  have hn : ∀ i, i < n → ∃ z : Int, U64 z ∧ ∃ ad, a = some ad ∧ W.cell? (ad.add i) = some (.int .u64 z) := by
    intro i hlt
    obtain ⟨ad, cs', ha, hlen, hcell, hrd⟩ := hi i hlt
    obtain ⟨z, e, hz⟩ := rd_u64 hrd
    refine ⟨z, hz, ad, ha, ?_⟩
    have := hcell 0 (by omega)
    rw [e] at this
    simpa using this
  obtain ⟨f, hf⟩ := Go.Deep.choose_lt hn
  refine ⟨a, n, cap, (List.range n).map f, hcs, hl, hm, by simp, by omega, fun h0 => ?_, fun j => ?_⟩
  · obtain ⟨_, ad, ha, hc0⟩ := hf 0 h0
    have hc0' : W.cell? ad = some (.int .u64 (f 0)) := by simpa [Addr.add] using hc0
    obtain ⟨b, off, e⟩ := plain_of hc0'
    subst e
    refine ⟨b, off, ha, fun j hj => ?_⟩
    obtain ⟨_, ad', ha', hc'⟩ := hf j hj
    rw [ha] at ha'
    obtain rfl := Option.some.inj ha'
    rw [Go.WideShapes.add_plain] at hc'
    rw [hc']
    simp [List.getD, hj]
  · by_cases hj : j < n
    · have := (hf j hj).1
      simpa [List.getD, hj] using this
    · simp [List.getD, hj, U64]
set_option maxRecDepth 20000 in
theorem rd_pair {cs : List Value} (h : Rd enc W 35 cs) : ∃ u0 u1 : Int, cs = [.int .u64 u0, .int .u64 u1] ∧ U64 u0 ∧ U64 u1 := by
  obtain ⟨hlen, hf⟩ := rd_struct Try.underlying35 h
  rw [cells_pair] at hlen
  match cs, hlen with
  | [c0, c1], _ =>
    have h0 : Rd enc W 33 (([c0, c1].drop 0).take (Try.prog.cellsOf 33)) := hf 0 _ rfl
    have h1 : Rd enc W 33 (([c0, c1].drop 1).take (Try.prog.cellsOf 33)) := hf 1 _ rfl
    rw [cells_u64] at h0 h1
    obtain ⟨x0, e0, w0⟩ := rd_u64 h0
    obtain ⟨x1, e1, w1⟩ := rd_u64 h1
    simp at e0 e1
    subst e0 e1
    exact ⟨_, _, rfl, w0, w1⟩
theorem rd_box {cs : List Value} (h : Rd enc W 37 cs) : ∃ x0 x1 x2 x3 x4 x5 : Int, cs = [.int .u64 x0, .int .u64 x1, .int .u64 x2, .int .u64 x3, .int .u64 x4, .int .u64 x5] ∧ ∀ x ∈ [x0, x1, x2, x3, x4, x5], U64 x := by
  obtain ⟨hlen, hf⟩ := rd_array Try.underlying37 h
  rw [cells_boxw] at hlen
  rw [cells_pair] at hf
  match cs, hlen with
  | [c0, c1, c2, c3, c4, c5], _ =>
    obtain ⟨x0, x1, e0, u0, u1⟩ := rd_pair (hf 0 (by omega))
    obtain ⟨x2, x3, e1, u2, u3⟩ := rd_pair (hf 1 (by omega))
    obtain ⟨x4, x5, e2, u4, u5⟩ := rd_pair (hf 2 (by omega))
    simp at e0 e1 e2
    obtain ⟨rfl, rfl⟩ := e0
    obtain ⟨rfl, rfl⟩ := e1
    obtain ⟨rfl, rfl⟩ := e2
    exact ⟨x0, x1, x2, x3, x4, x5, rfl, fun x hx => by simp at hx; rcases hx with rfl | rfl | rfl | rfl | rfl | rfl <;> assumption⟩
set_option maxRecDepth 20000 in
theorem rd_proof {cs : List Value} (h : Rd enc W 26 cs) : ∃ a1 n1 c1 a2 n2 c2, ∃ p : ProofD, cs = [.slice a1 n1 c1, .slice a2 n2 c2] ∧ IntsAt W a1 n1 p.1 ∧ IntsAt W a2 n2 p.2 := by
  obtain ⟨hlen, hf⟩ := rd_struct Try.underlying26 h
  rw [cells_proof] at hlen
  match cs, hlen with
  | [d0, d1], _ =>
    have h0 : Rd enc W 24 (([d0, d1].drop 0).take (Try.prog.cellsOf 24)) := hf 0 _ rfl
    have h1 : Rd enc W 24 (([d0, d1].drop 1).take (Try.prog.cellsOf 24)) := hf 1 _ rfl
    rw [cells_ints] at h0 h1
    obtain ⟨a1, n1, c1, xs, e0, _, _, i1⟩ := rd_ints h0
    obtain ⟨a2, n2, c2, ys, e1, _, _, i2⟩ := rd_ints h1
    simp at e0 e1
    subst e0 e1
    exact ⟨a1, n1, c1, a2, n2, c2, (xs, ys), rfl, i1, i2⟩
set_option maxRecDepth 20000 in
theorem rd_letter {cs : List Value} (h : Rd enc W 39 cs) : ∃ x0 x1 x2 x3 x4 x5 a1 n1 c1 a2 n2 c2, ∃ p : ProofD, cs = [.int .u64 x0, .int .u64 x1, .int .u64 x2, .int .u64 x3, .int .u64 x4, .int .u64 x5, .slice a1 n1 c1, .slice a2 n2 c2] ∧ (∀ x ∈ [x0, x1, x2, x3, x4, x5], U64 x) ∧ IntsAt W a1 n1 p.1 ∧ IntsAt W a2 n2 p.2 := by
  obtain ⟨hlen, hf⟩ := rd_struct Try.underlying39 h
  rw [cells_let] at hlen
  match cs, hlen with
  | [d0, d1, d2, d3, d4, d5, d6, d7], _ =>
    have h0 : Rd enc W 37 (([d0, d1, d2, d3, d4, d5, d6, d7].drop 0).take (Try.prog.cellsOf 37)) := hf 0 _ rfl
    have h1 : Rd enc W 26 (([d0, d1, d2, d3, d4, d5, d6, d7].drop 6).take (Try.prog.cellsOf 26)) := hf 1 _ rfl
    rw [cells_boxw] at h0
    rw [cells_proof] at h1
    obtain ⟨x0, x1, x2, x3, x4, x5, e0, hu⟩ := rd_box h0
    obtain ⟨a1, n1, c1, a2, n2, c2, p, e1, i1, i2⟩ := rd_proof h1
    simp at e0 e1
    obtain ⟨rfl, rfl, rfl, rfl, rfl, rfl⟩ := e0
    obtain ⟨rfl, rfl⟩ := e1
    exact ⟨x0, x1, x2, x3, x4, x5, a1, n1, c1, a2, n2, c2, p, rfl, hu, i1, i2⟩
end
end Go.Proofs.Ytdbhcdhenapfoaa
