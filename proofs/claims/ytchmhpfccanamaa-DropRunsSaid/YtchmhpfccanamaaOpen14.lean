/- From the reading of an argument to what stands in memory. -/
import Derived.Test.YtchmhpfccanamaaDropM
import Derived.Deep.Slices
import Derived.OpenShut
import Derived.ProofKit
set_option linter.unusedVariables false
set_option linter.unusedSimpArgs false
namespace Go.Proofs.Ytchmhpfccanamaa
open Go.RowKit Go.ChangeShapes Go.WideShapes Go.Deep
theorem okWide_array {P : Program} {w : World} {r : Reach} {base : Nat} {t : TypeId} {v : Value} {n : Nat} {e : TypeId} (ht : P.underlying t = some (.array n e)) (h : Value.okWide P w r base t v) : ∃ cs, v = .agg cs ∧ cs.size = P.cellsOf t := by
  simp only [Value.okWide, ht] at h
  obtain ⟨cs, h1, h2, _⟩ := h
  exact ⟨cs, h1, h2⟩
/-- The argument's cells, read whole. -/
abbrev Rd {H : Type} (enc : TypeId × Value → H) (W : World) (t : TypeId) (cs : List Value) : Prop := ∃ fuel x, DataW.trod enc Try.prog W 0 (fun _ => true) true fuel t cs = some x
theorem cells_u64 : Try.prog.cellsOf 23 = 1 := by kernel_rfl
section
variable {H : Type} {enc : TypeId × Value → H} {W : World}
theorem rd_u64 {cs : List Value} (h : Rd enc W 23 cs) : ∃ n, cs = [.int .u64 n] ∧ U64 n := by
  obtain ⟨fuel, x, h⟩ := h
  obtain ⟨n, e, _, hw⟩ := DataW.trod_int Try.underlying23 h
  have hb := bounds_u64 hw
  exact ⟨n, e, hb.1, by omega⟩
/-- A slice, element by element. -/
theorem rd_slice {t e : TypeId} {c : Nat} (ht : Try.prog.underlying t = some (.slice e)) (hc : Try.prog.cellsOf e = c) {cs : List Value} (h : Rd enc W t cs) :
    ∃ a n cap, cs = [.slice a n cap] ∧ n ≤ cap ∧ cap ≤ 9223372036854775807 ∧ ∀ i, i < n → ∃ ad cs', a = some ad ∧ cs'.length = c ∧ (∀ j, j < c → W.cell? (ad.add (i * c + j)) = cs'[j]?) ∧ Rd enc W e cs' := by
  obtain ⟨fuel, x, h⟩ := h
  rcases open_slice ht h with ⟨e, _⟩ | ⟨a, len, cap, m, n, D, Pl, hcs, hb, hl, hm, hmm, hx, hi⟩
  · exact ⟨none, 0, 0, e, by omega, by omega, fun i hi => by omega⟩
  · simp only [if_true] at hmm
    refine ⟨some a, len, cap, hcs, hl, hm, fun i hlt => ?_⟩
    obtain ⟨cs', h1, h2⟩ := hi i (by omega)
    rw [hc] at h1
    obtain ⟨_, h3, h4⟩ := World.cells?_some h1
    exact ⟨a, cs', rfl, h3, fun j hj => by rw [← Go.Deep.add_add]; exact h4 j hj, _, _, h2⟩
theorem plain_of {ad : Addr} {v : Value} (h : W.cell? ad = some v) : ∃ b off, ad = ⟨b, off, none⟩ := by
  obtain ⟨b, off, spot⟩ := ad
  have hs : spot = none := World.cell?_spot h
  subst hs
  exact ⟨b, off, rfl⟩
/-- A struct, field by field. -/
theorem rd_struct {t : TypeId} {fs : Array Field} (ht : Try.prog.underlying t = some (.struct fs)) {cs : List Value} (h : Rd enc W t cs) :
    cs.length = Try.prog.cellsOf t ∧ ∀ (i : Nat) (f : Field), fs[i]? = some f → Rd enc W f.type ((cs.drop f.offset).take (Try.prog.cellsOf f.type)) := by
  obtain ⟨fuel, x, h⟩ := h
  obtain ⟨xs, n, _, _, hlen, hxl, hf⟩ := DataW.trod_struct ht h
  refine ⟨hlen, fun i f hi => ?_⟩
  have hlt : i < xs.length := by rw [hxl]; exact (Array.getElem?_eq_some_iff.1 hi).1
  exact ⟨n, xs[i], by rw [hf i f hi]; exact List.getElem?_eq_getElem hlt⟩
theorem rd_array {t e : TypeId} {n : Nat} (ht : Try.prog.underlying t = some (.array n e)) {cs : List Value} (h : Rd enc W t cs) :
    cs.length = Try.prog.cellsOf t ∧ ∀ i, i < n → Rd enc W e ((cs.drop (i * Try.prog.cellsOf e)).take (Try.prog.cellsOf e)) := by
  obtain ⟨fuel, x, h⟩ := h
  obtain ⟨xs, m, _, _, hlen, hxl, hf⟩ := DataW.trod_array ht h
  refine ⟨hlen, fun i hi => ?_⟩
  exact ⟨m, xs[i]'(by omega), by rw [hf i hi]; exact List.getElem?_eq_getElem (by omega)⟩
theorem wf_U64 {x : Int} (h : (Lit.int .u64 x).wf = true) : U64 x := by
  have hb := bounds_u64 h
  exact ⟨hb.1, by omega⟩
abbrev I64 (z : Int) : Prop := -9223372036854775808 ≤ z ∧ z ≤ 9223372036854775807
theorem cells_int : Try.prog.cellsOf 3 = 1 := by kernel_rfl
theorem cells_note : Try.prog.cellsOf 25 = 3 := by kernel_rfl
theorem rd_int {cs : List Value} (h : Rd enc W 3 cs) : ∃ n, cs = [.int .i64 n] ∧ I64 n := by
  obtain ⟨fuel, x, h⟩ := h
  obtain ⟨n, e, _, hw⟩ := DataW.trod_int Try.underlying3 h
  have hb := bounds_i64 hw
  exact ⟨n, e, by omega, by omega⟩
theorem rd_note {cs : List Value} (h : Rd enc W 25 cs) : ∃ n : NoteD, cs = [.int .u64 n.1, .int .u64 n.2.1, .int .u64 n.2.2] ∧ U64 n.1 ∧ U64 n.2.1 ∧ U64 n.2.2 := by
  obtain ⟨hlen, hf⟩ := rd_array Try.underlying25 h
  rw [cells_note] at hlen
  rw [cells_u64] at hf
  match cs, hlen with
  | [c0, c1, c2], _ =>
    obtain ⟨x0, e0, w0⟩ := rd_u64 (hf 0 (by omega))
    obtain ⟨x1, e1, w1⟩ := rd_u64 (hf 1 (by omega))
    obtain ⟨x2, e2, w2⟩ := rd_u64 (hf 2 (by omega))
    simp at e0 e1 e2
    subst e0 e1 e2
    exact ⟨(x0, (x1, x2)), rfl, w0, w1, w2⟩
theorem rd_notes {cs : List Value} (h : Rd enc W 22 cs) : ∃ a n cap l, cs = [.slice a n cap] ∧ n ≤ cap ∧ cap ≤ 9223372036854775807 ∧ NotesAt W a n l := by
  obtain ⟨a, n, cap, hcs, hl, hm, hi⟩ := rd_slice Try.underlying22 (c := 3) cells_note h
  have hn : ∀ i, i < n → ∃ z : NoteD, U64 z.1 ∧ ∃ ad, a = some ad ∧ W.cell? (ad.add (i * 3)) = some (.int .u64 z.1) ∧ W.cell? (ad.add (i * 3 + 1)) = some (.int .u64 z.2.1) ∧ W.cell? (ad.add (i * 3 + 2)) = some (.int .u64 z.2.2) := by
    intro i hlt
    obtain ⟨ad, cs', ha, hlen, hcell, hrd⟩ := hi i hlt
    obtain ⟨z, e, hz, _, _⟩ := rd_note hrd
    refine ⟨z, hz, ad, ha, ?_, ?_, ?_⟩
    · have := hcell 0 (by omega); rw [e] at this; simpa using this
    · have := hcell 1 (by omega); rw [e] at this; simpa using this
    · have := hcell 2 (by omega); rw [e] at this; simpa using this
  obtain ⟨f, hf⟩ := Go.Deep.choose_lt hn
  refine ⟨a, n, cap, (List.range n).map f, hcs, hl, hm, by simp, fun h0 => ?_, fun j => ?_⟩
  · obtain ⟨_, ad, ha, hc0, _⟩ := hf 0 h0
    have hc0' : W.cell? ad = some (.int .u64 (f 0).1) := by simpa [Addr.add] using hc0
    obtain ⟨b, off, e⟩ := plain_of hc0'
    subst e
    refine ⟨b, off, ha, fun j hj => ?_⟩
    obtain ⟨_, ad', ha', h0, h1, h2⟩ := hf j hj
    rw [ha] at ha'
    obtain rfl := Option.some.inj ha'
    rw [Go.WideShapes.add_plain] at h0 h1 h2
    refine ⟨?_, ?_, ?_⟩
    · rw [h0]; simp [List.getD, hj]
    · rw [Nat.add_assoc, h1]; simp [List.getD, hj]
    · rw [Nat.add_assoc, h2]; simp [List.getD, hj]
  · by_cases hj : j < n
    · have := (hf j hj).1
      simpa [List.getD, hj] using this
    · simp [List.getD, hj, U64]
theorem rd_two {cs : List Value} (h : Rd enc W 26 cs) : ∃ n m : NoteD, cs = [.int .u64 n.1, .int .u64 n.2.1, .int .u64 n.2.2, .int .u64 m.1, .int .u64 m.2.1, .int .u64 m.2.2] ∧ U64 n.1 := by
  obtain ⟨hlen, hf⟩ := rd_array Try.underlying26 h
  rw [show Try.prog.cellsOf 26 = 6 by kernel_rfl] at hlen
  rw [cells_note] at hf
  match cs, hlen with
  | [c0, c1, c2, c3, c4, c5], _ =>
    obtain ⟨n, e0, u0, _⟩ := rd_note (hf 0 (by omega))
    obtain ⟨m, e1, _⟩ := rd_note (hf 1 (by omega))
    simp at e0 e1
    obtain ⟨rfl, rfl, rfl⟩ := e0
    obtain ⟨rfl, rfl, rfl⟩ := e1
    exact ⟨n, m, rfl, u0⟩
theorem rd_ints2 {cs : List Value} (h : Rd enc W 27 cs) : ∃ x y : Int, cs = [.int .i64 x, .int .i64 y] ∧ I64 x ∧ I64 y := by
  obtain ⟨hlen, hf⟩ := rd_array Try.underlying27 h
  rw [show Try.prog.cellsOf 27 = 2 by kernel_rfl] at hlen
  rw [cells_int] at hf
  match cs, hlen with
  | [c0, c1], _ =>
    obtain ⟨x, e0, u0⟩ := rd_int (hf 0 (by omega))
    obtain ⟨y, e1, u1⟩ := rd_int (hf 1 (by omega))
    simp at e0 e1
    subst e0 e1
    exact ⟨x, y, rfl, u0, u1⟩
end
end Go.Proofs.Ytchmhpfccanamaa
