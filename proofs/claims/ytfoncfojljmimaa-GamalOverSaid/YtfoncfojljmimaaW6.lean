/- Merged texts: Open, OpenP, Open5, Group5, AllE. -/
import Derived.Test.YtfoncfojljmimaaW3
import Derived.Test.YtfoncfojljmimaaProg
import Derived.Deep.Slices
import Derived.OpenShut
import Derived.ProofKit
import Derived.Test.YtfoncfojljmimaaW4
import Derived.Test.YtfoncfojljmimaaW5
set_option linter.unusedVariables false
set_option linter.unusedSimpArgs false
/- From the reading of an argument to what stands in memory. -/
namespace Go.Proofs.Ytfoncfojljmimaa
open Go.RowKit Go.ChangeShapes Go.WideShapes Go.Deep
theorem okWide_array {P : Program} {w : World} {r : Reach} {base : Nat} {t : TypeId} {v : Value} {n : Nat} {e : TypeId} (ht : P.underlying t = some (.array n e)) (h : Value.okWide P w r base t v) : ∃ cs, v = .agg cs ∧ cs.size = P.cellsOf t := by
  simp only [Value.okWide, ht] at h
  obtain ⟨cs, h1, h2, _⟩ := h
  exact ⟨cs, h1, h2⟩
/-- The argument's cells, read whole. -/
abbrev Rd {H : Type} (enc : TypeId × Value → H) (W : World) (t : TypeId) (cs : List Value) : Prop := ∃ fuel x, DataW.trod enc Try.prog W 0 (fun _ => true) true fuel t cs = some x
theorem cells_u64 : Try.prog.cellsOf 22 = 1 := by kernel_rfl
theorem cells_row : Try.prog.cellsOf 57 = 3 := by kernel_rfl
theorem cells_ints : Try.prog.cellsOf 34 = 1 := by kernel_rfl
section
variable {H : Type} {enc : TypeId × Value → H} {W : World}
theorem rd_u64 {cs : List Value} (h : Rd enc W 22 cs) : ∃ n, cs = [.int .u64 n] ∧ U64 n := by
  obtain ⟨fuel, x, h⟩ := h
  obtain ⟨n, e, _, hw⟩ := DataW.trod_int Try.underlying22 h
  have hb := bounds_u64 hw
  exact ⟨n, e, hb.1, by omega⟩
/-- A slice, element by element. -/
theorem rd_slice {t e : TypeId} {c : Nat} (ht : Try.prog.underlying t = some (.slice e)) (hc : Try.prog.cellsOf e = c) {cs : List Value} (h : Rd enc W t cs) :
    ∃ a n cap, cs = [.slice a n cap] ∧ n ≤ cap ∧ cap ≤ 9223372036854775807 ∧ ∀ i, i < n → ∃ ad cs', a = some ad ∧ cs'.length = c ∧ (∀ j, j < c → W.cell? (ad.add (i * c + j)) = cs'[j]?) ∧ Rd enc W e cs' := by
  obtain ⟨fuel, x, h⟩ := h
  rcases open_slice ht h with ⟨e, _⟩ | ⟨a, len, cap, m, n, D, Pl, hcs, hb, hl, hm, hmm, hx, hi⟩
  · exact ⟨none, 0, 0, e, by omega, by omega, fun i hi => by omega⟩
  · simp only [if_true] at hmm
    refine ⟨some a, len, cap, hcs, hl, hm, fun i hlt => ?_⟩
    obtain ⟨cs', h1, h2⟩ := hi i (by omega)
    rw [hc] at h1
    obtain ⟨_, h3, h4⟩ := World.cells?_some h1
    exact ⟨a, cs', rfl, h3, fun j hj => by rw [← Go.Deep.add_add]; exact h4 j hj, _, _, h2⟩
theorem plain_of {ad : Addr} {v : Value} (h : W.cell? ad = some v) : ∃ b off, ad = ⟨b, off, none⟩ := by
  obtain ⟨b, off, spot⟩ := ad
  have hs : spot = none := World.cell?_spot h
  subst hs
  exact ⟨b, off, rfl⟩
theorem rd_ints {cs : List Value} (h : Rd enc W 34 cs) : ∃ a n cap xs, cs = [.slice a n cap] ∧ n ≤ cap ∧ cap ≤ 9223372036854775807 ∧ IntsAt W a n xs := by
  obtain ⟨a, n, cap, hcs, hl, hm, hi⟩ := rd_slice Try.underlying34 (c := 1) cells_u64 h
  have hn : ∀ i, i < n → ∃ z : Int, U64 z ∧ ∃ ad, a = some ad ∧ W.cell? (ad.add i) = some (.int .u64 z) := by
    intro i hlt
    obtain ⟨ad, cs', ha, hlen, hcell, hrd⟩ := hi i hlt
    obtain ⟨z, e, hz⟩ := rd_u64 hrd
    refine ⟨z, hz, ad, ha, ?_⟩
    have := hcell 0 (by omega)
    rw [e] at this
    simpa using this
  obtain ⟨f, hf⟩ := Go.Deep.choose_lt hn
  refine ⟨a, n, cap, (List.range n).map f, hcs, hl, hm, by simp, by omega, fun h0 => ?_, fun j => ?_⟩
  · obtain ⟨_, ad, ha, hc0⟩ := hf 0 h0
    have hc0' : W.cell? ad = some (.int .u64 (f 0)) := by simpa [Addr.add] using hc0
    obtain ⟨b, off, e⟩ := plain_of hc0'
    subst e
    refine ⟨b, off, ha, fun j hj => ?_⟩
    obtain ⟨_, ad', ha', hc'⟩ := hf j hj
    rw [ha] at ha'
    obtain rfl := Option.some.inj ha'
    rw [Go.WideShapes.add_plain] at hc'
    rw [hc']
    simp [List.getD, hj]
  · by_cases hj : j < n
    · have := (hf j hj).1
      simpa [List.getD, hj] using this
    · simp [List.getD, hj, U64]
/-- A struct, field by field. -/
theorem rd_struct {t : TypeId} {fs : Array Field} (ht : Try.prog.underlying t = some (.struct fs)) {cs : List Value} (h : Rd enc W t cs) :
    cs.length = Try.prog.cellsOf t ∧ ∀ (i : Nat) (f : Field), fs[i]? = some f → Rd enc W f.type ((cs.drop f.offset).take (Try.prog.cellsOf f.type)) := by
  obtain ⟨fuel, x, h⟩ := h
  obtain ⟨xs, n, _, _, hlen, hxl, hf⟩ := DataW.trod_struct ht h
  refine ⟨hlen, fun i f hi => ?_⟩
  have hlt : i < xs.length := by rw [hxl]; exact (Array.getElem?_eq_some_iff.1 hi).1
  exact ⟨n, xs[i], by rw [hf i f hi]; exact List.getElem?_eq_getElem hlt⟩
theorem rd_row {cs : List Value} (h : Rd enc W 57 cs) : ∃ (r : RowD) (fa : Option Addr) (fn fc : Nat), cs = [.int .u64 r.n, .int .u64 r.a, .slice fa fn fc] ∧ U64 r.n ∧ U64 r.a ∧ IntsAt W fa fn r.f := by
  obtain ⟨hlen, hf⟩ := rd_struct Try.underlying57 h
  rw [cells_row] at hlen
  match cs, hlen with
  | [c0, c1, c2], _ =>
    have h0 : Rd enc W 22 (([c0, c1, c2].drop 0).take (Try.prog.cellsOf 22)) := hf 0 _ rfl
    have h1 : Rd enc W 22 (([c0, c1, c2].drop 1).take (Try.prog.cellsOf 22)) := hf 1 _ rfl
    have h2 : Rd enc W 34 (([c0, c1, c2].drop 2).take (Try.prog.cellsOf 34)) := hf 2 _ rfl
    rw [cells_u64] at h0 h1
    rw [cells_ints] at h2
    obtain ⟨n, e0, u0⟩ := rd_u64 h0
    obtain ⟨a, e1, u1⟩ := rd_u64 h1
    obtain ⟨fa, fn, fc, xs, e2, _, _, hx⟩ := rd_ints h2
    simp at e0 e1 e2
    subst e0 e1 e2
    exact ⟨⟨n, a, xs⟩, fa, fn, fc, rfl, u0, u1, hx⟩
theorem rd_rows {cs : List Value} (h : Rd enc W 23 cs) : ∃ a n cap rs, cs = [.slice a n cap] ∧ n ≤ cap ∧ cap ≤ 9223372036854775807 ∧ RowsAt W a n rs := by
  obtain ⟨a, n, cap, hcs, hl, hm, hi⟩ := rd_slice Try.underlying23 (c := 3) cells_row h
  have hn : ∀ i, i < n → ∃ r : RowD, ∃ ad, a = some ad ∧ U64 r.n ∧ U64 r.a ∧ W.cell? (ad.add (i * 3)) = some (.int .u64 r.n) ∧ W.cell? (ad.add (i * 3 + 1)) = some (.int .u64 r.a) ∧
      ∃ fa fn fc, W.cell? (ad.add (i * 3 + 2)) = some (.slice fa fn fc) ∧ IntsAt W fa fn r.f := by
    intro i hlt
    obtain ⟨ad, cs', ha, hlen, hcell, hrd⟩ := hi i hlt
    obtain ⟨r, fa, fn, fc, e, u0, u1, hx⟩ := rd_row hrd
    have c0 := hcell 0 (by omega)
    have c1 := hcell 1 (by omega)
    have c2 := hcell 2 (by omega)
    rw [e] at c0 c1 c2
    exact ⟨r, ad, ha, u0, u1, by simpa using c0, by simpa using c1, fa, fn, fc, by simpa using c2, hx⟩
  obtain ⟨f, hf⟩ := Go.Deep.choose_lt hn
  refine ⟨a, n, cap, (List.range n).map f, hcs, hl, hm, by simp, by omega, fun h0 => ?_⟩
  obtain ⟨ad, ha, _, _, hc0, _⟩ := hf 0 h0
  have hc0' : W.cell? ad = some (.int .u64 (f 0).n) := by simpa [Addr.add] using hc0
  obtain ⟨b, off, e⟩ := plain_of hc0'
  subst e
  refine ⟨b, off, ha, fun j hj => ?_⟩
  obtain ⟨ad', ha', u0, u1, g0, g1, fa, fn, fc, g2, hx⟩ := hf j hj
  rw [ha] at ha'
  obtain rfl := Option.some.inj ha'
  rw [Go.WideShapes.add_plain] at g0 g1 g2
  have e : ((List.range n).map f).getD j default = f j := by simp [List.getD, hj]
  rw [e]
  exact ⟨g0, by rw [Nat.add_assoc]; exact g1, ⟨fa, fn, fc, by rw [Nat.add_assoc]; exact g2, hx⟩, u0, u1⟩
end
end Go.Proofs.Ytfoncfojljmimaa
/- A group out of its reading. -/
namespace Go.Proofs.Ytfoncfojljmimaa
open Go.RowKit
section
variable {H : Type} {enc : TypeId × Value → H} {W : World}
theorem wf_U64 {x : Int} (h : (Lit.int .u64 x).wf = true) : U64 x := by
  have hb := bounds_u64 h
  exact ⟨hb.1, by omega⟩
theorem cells_rows : Try.prog.cellsOf 23 = 1 := by kernel_rfl
theorem cells_params : Try.prog.cellsOf 25 = 5 := by kernel_rfl
theorem rd_params {cs : List Value} (h : Rd enc W 25 cs) : ∃ (P Q G K : Int) (ra : Option Addr) (rn rc : Nat) (rs : List RowD),
    cs = [.int .u64 P, .int .u64 Q, .int .u64 G, .int .u64 K, .slice ra rn rc] ∧ U64 P ∧ U64 Q ∧ U64 G ∧ U64 K ∧ RowsAt W ra rn rs := by
  obtain ⟨hlen, hf⟩ := rd_struct Try.underlying25 h
  rw [cells_params] at hlen
  match cs, hlen with
  | [d0, d1, d2, d3, d4], _ =>
    have h0 : Rd enc W 22 (([d0, d1, d2, d3, d4].drop 0).take (Try.prog.cellsOf 22)) := hf 0 _ rfl
    have h1 : Rd enc W 22 (([d0, d1, d2, d3, d4].drop 1).take (Try.prog.cellsOf 22)) := hf 1 _ rfl
    have h2 : Rd enc W 22 (([d0, d1, d2, d3, d4].drop 2).take (Try.prog.cellsOf 22)) := hf 2 _ rfl
    have h3 : Rd enc W 22 (([d0, d1, d2, d3, d4].drop 3).take (Try.prog.cellsOf 22)) := hf 3 _ rfl
    have h4 : Rd enc W 23 (([d0, d1, d2, d3, d4].drop 4).take (Try.prog.cellsOf 23)) := hf 4 _ rfl
    rw [cells_u64] at h0 h1 h2 h3
    rw [cells_rows] at h4
    obtain ⟨x0, e0, u0⟩ := rd_u64 h0
    obtain ⟨x1, e1, u1⟩ := rd_u64 h1
    obtain ⟨x2, e2, u2⟩ := rd_u64 h2
    obtain ⟨x3, e3, u3⟩ := rd_u64 h3
    obtain ⟨ra, rn, rc, rs, e4, _, _, hr⟩ := rd_rows h4
    simp at e0 e1 e2 e3 e4
    subst e0 e1 e2 e3 e4
    exact ⟨_, _, _, _, _, _, _, rs, rfl, u0, u1, u2, u3, hr⟩
theorem rd_array {t e : TypeId} {n : Nat} (ht : Try.prog.underlying t = some (.array n e)) {cs : List Value} (h : Rd enc W t cs) :
    cs.length = Try.prog.cellsOf t ∧ ∀ i, i < n → Rd enc W e ((cs.drop (i * Try.prog.cellsOf e)).take (Try.prog.cellsOf e)) := by
  obtain ⟨fuel, x, h⟩ := h
  obtain ⟨xs, m, _, _, hlen, hxl, hf⟩ := DataW.trod_array ht h
  refine ⟨hlen, fun i hi => ?_⟩
  exact ⟨m, xs[i]'(by omega), by rw [hf i hi]; exact List.getElem?_eq_getElem (by omega)⟩
end
end Go.Proofs.Ytfoncfojljmimaa
/- Layer 5's arguments out of their reading. -/
namespace Go.Proofs.Ytfoncfojljmimaa
open Go.RowKit
section
variable {H : Type} {enc : TypeId × Value → H} {W : World}
theorem rd_pair {cs : List Value} (h : Rd enc W 27 cs) : ∃ u0 u1 : Int, cs = [.int .u64 u0, .int .u64 u1] ∧ U64 u0 ∧ U64 u1 := by
  obtain ⟨hlen, hf⟩ := rd_struct Try.underlying27 h
  rw [show Try.prog.cellsOf 27 = 2 by kernel_rfl] at hlen
  match cs, hlen with
  | [c0, c1], _ =>
    have h0 : Rd enc W 22 (([c0, c1].drop 0).take (Try.prog.cellsOf 22)) := hf 0 _ rfl
    have h1 : Rd enc W 22 (([c0, c1].drop 1).take (Try.prog.cellsOf 22)) := hf 1 _ rfl
    rw [cells_u64] at h0 h1
    obtain ⟨x0, e0, w0⟩ := rd_u64 h0
    obtain ⟨x1, e1, w1⟩ := rd_u64 h1
    simp at e0 e1
    subst e0 e1
    exact ⟨_, _, rfl, w0, w1⟩
theorem rd_three {cs : List Value} (h : Rd enc W 49 cs) : ∃ u0 u1 u2 : Int, cs = [.int .u64 u0, .int .u64 u1, .int .u64 u2] ∧ U64 u0 ∧ U64 u1 ∧ U64 u2 := by
  obtain ⟨hlen, hf⟩ := rd_struct Try.underlying49 h
  rw [show Try.prog.cellsOf 49 = 3 by kernel_rfl] at hlen
  match cs, hlen with
  | [c0, c1, c2], _ =>
    have h0 : Rd enc W 22 (([c0, c1, c2].drop 0).take (Try.prog.cellsOf 22)) := hf 0 _ rfl
    have h1 : Rd enc W 22 (([c0, c1, c2].drop 1).take (Try.prog.cellsOf 22)) := hf 1 _ rfl
    have h2 : Rd enc W 22 (([c0, c1, c2].drop 2).take (Try.prog.cellsOf 22)) := hf 2 _ rfl
    rw [cells_u64] at h0 h1 h2
    obtain ⟨x0, e0, w0⟩ := rd_u64 h0
    obtain ⟨x1, e1, w1⟩ := rd_u64 h1
    obtain ⟨x2, e2, w2⟩ := rd_u64 h2
    simp at e0 e1 e2
    subst e0 e1 e2
    exact ⟨_, _, _, rfl, w0, w1, w2⟩
theorem rd_four {cs : List Value} (h : Rd enc W 38 cs) : ∃ u0 u1 u2 u3 : Int, cs = [.int .u64 u0, .int .u64 u1, .int .u64 u2, .int .u64 u3] ∧ U64 u0 ∧ U64 u1 ∧ U64 u2 ∧ U64 u3 := by
  obtain ⟨hlen, hf⟩ := rd_array Try.underlying38 h
  rw [show Try.prog.cellsOf 38 = 4 by kernel_rfl] at hlen
  rw [cells_u64] at hf
  match cs, hlen with
  | [c0, c1, c2, c3], _ =>
    have h0 := hf 0 (by omega)
    have h1 := hf 1 (by omega)
    have h2 := hf 2 (by omega)
    have h3 := hf 3 (by omega)
    obtain ⟨x0, e0, w0⟩ := rd_u64 h0
    obtain ⟨x1, e1, w1⟩ := rd_u64 h1
    obtain ⟨x2, e2, w2⟩ := rd_u64 h2
    obtain ⟨x3, e3, w3⟩ := rd_u64 h3
    simp at e0 e1 e2 e3
    subst e0 e1 e2 e3
    exact ⟨_, _, _, _, rfl, w0, w1, w2, w3⟩
theorem rd_tri {cs : List Value} (h : Rd enc W 43 cs) : ∃ u0 u1 u2 : Int, cs = [.int .u64 u0, .int .u64 u1, .int .u64 u2] ∧ U64 u0 ∧ U64 u1 ∧ U64 u2 := by
  obtain ⟨hlen, hf⟩ := rd_array Try.underlying43 h
  rw [show Try.prog.cellsOf 43 = 3 by kernel_rfl] at hlen
  rw [cells_u64] at hf
  match cs, hlen with
  | [c0, c1, c2], _ =>
    have h0 := hf 0 (by omega)
    have h1 := hf 1 (by omega)
    have h2 := hf 2 (by omega)
    obtain ⟨x0, e0, w0⟩ := rd_u64 h0
    obtain ⟨x1, e1, w1⟩ := rd_u64 h1
    obtain ⟨x2, e2, w2⟩ := rd_u64 h2
    simp at e0 e1 e2
    subst e0 e1 e2
    exact ⟨_, _, _, rfl, w0, w1, w2⟩
theorem rd_pairs {cs : List Value} (h : Rd enc W 28 cs) : ∃ u0 u1 u2 u3 : Int, cs = [.int .u64 u0, .int .u64 u1, .int .u64 u2, .int .u64 u3] ∧ U64 u0 ∧ U64 u1 ∧ U64 u2 ∧ U64 u3 := by
  obtain ⟨hlen, hf⟩ := rd_array Try.underlying28 h
  rw [show Try.prog.cellsOf 28 = 4 by kernel_rfl] at hlen
  rw [show Try.prog.cellsOf 27 = 2 by kernel_rfl] at hf
  match cs, hlen with
  | [c0, c1, c2, c3], _ =>
    obtain ⟨x0, x1, e0, w0, w1⟩ := rd_pair (hf 0 (by omega))
    obtain ⟨x2, x3, e1, w2, w3⟩ := rd_pair (hf 1 (by omega))
    simp at e0 e1
    obtain ⟨e0, e2⟩ := e0
    obtain ⟨e1, e3⟩ := e1
    subst e0 e1 e2 e3
    exact ⟨_, _, _, _, rfl, w0, w1, w2, w3⟩
theorem rd_two {cs : List Value} (h : Rd enc W 46 cs) : ∃ a n ca xs b m cb ys, cs = [.slice a n ca, .slice b m cb] ∧ n ≤ ca ∧ ca ≤ 9223372036854775807 ∧ m ≤ cb ∧ cb ≤ 9223372036854775807 ∧ IntsAt W a n xs ∧ IntsAt W b m ys := by
  obtain ⟨hlen, hf⟩ := rd_array Try.underlying46 h
  rw [show Try.prog.cellsOf 46 = 2 by kernel_rfl] at hlen
  rw [cells_ints] at hf
  match cs, hlen with
  | [c0, c1], _ =>
    obtain ⟨a, n, ca, xs, e0, l0, m0, i0⟩ := rd_ints (hf 0 (by omega))
    obtain ⟨b, m, cb, ys, e1, l1, m1, i1⟩ := rd_ints (hf 1 (by omega))
    simp at e0 e1
    subst e0 e1
    exact ⟨_, _, _, _, _, _, _, _, rfl, l0, m0, l1, m1, i0, i1⟩
end
end Go.Proofs.Ytfoncfojljmimaa
/- The law's Group: few rows, of few factors, and the group is right. -/
namespace Go.Proofs.Ytfoncfojljmimaa
open Go.RowKit NT
theorem getD_mem {xs : List Int} {f : Int} (h : f ∈ xs) : ∃ i, xs.getD i 0 = f := by
  obtain ⟨i, hi, e⟩ := List.getElem_of_mem h
  exact ⟨i, by simp [List.getD, hi, e]⟩
theorem rows_fine {w : World} {a : Option Addr} {n : Nat} {rs : List RowD} (h : RowsAt w a n rs) : Fine rs := by
  intro i
  by_cases hi : i < n
  · obtain ⟨b, off, _, hr⟩ := h.rows (by omega)
    obtain ⟨fa, fn, fc, _, hf⟩ := (hr i hi).f
    refine ⟨fun f hm => ?_, hf.bd⟩
    obtain ⟨j, e⟩ := getD_mem hm
    rw [← e]
    exact (hf.bd j).1
  · have : rs.getD i default = default := by simp [List.getD, List.getElem?_eq_none (show rs.length ≤ i by rw [h.len]; omega)]
    rw [this]
    exact ⟨fun f hm => (by cases hm), fun j => ⟨by simp [default], by simp [default]⟩⟩
/-- few rows, of few factors -/
def SmallP (rs : List RowD) : Prop := rs.length ≤ 80 ∧ ∀ i, i < rs.length → (rs.getD i default).f.length ≤ 40
noncomputable def smallB (rs : List RowD) : Bool := open Classical in decide (SmallP rs)
theorem smallB_yes {rs : List RowD} (h : SmallP rs) : smallB rs = true := by unfold smallB; classical exact decide_eq_true h
theorem smallB_no {rs : List RowD} (h : ¬ SmallP rs) : smallB rs = false := by unfold smallB; classical exact decide_eq_false h
/-- few rows, of few factors, of a group that is right -/
def GoodP (P Q G H : Int) (rs : List RowD) : Prop := SmallP rs ∧ RightP P Q G H rs
noncomputable def goodB (P Q G H : Int) (rs : List RowD) : Bool := open Classical in decide (GoodP P Q G H rs)
theorem goodB_yes {P Q G H : Int} {rs : List RowD} (h : GoodP P Q G H rs) : goodB P Q G H rs = true := by unfold goodB; classical exact decide_eq_true h
theorem goodB_no {P Q G H : Int} {rs : List RowD} (h : ¬ GoodP P Q G H rs) : goodB P Q G H rs = false := by unfold goodB; classical exact decide_eq_false h
theorem goodB_eq {P Q G H : Int} {rs : List RowD} (h : SmallP rs) : grpB P Q G H rs = goodB P Q G H rs := by
  by_cases hr : RightP P Q G H rs
  · rw [grpB_yes hr, goodB_yes ⟨h, hr⟩]
  · rw [grpB_no hr, goodB_no (fun k => hr k.2)]
set_option maxHeartbeats 800000 in
theorem group5_any (P Q G H : Int) (a : Option Addr) (n cap : Nat) (rs : List RowD) (hP : U64 P) (hQ : U64 Q) (hG : U64 G) (hH : U64 H) (w0 : World) (h0 : RowsAt w0 a n rs) :
    Calls Try.prog 10 #[.agg #[.int .u64 P, .int .u64 Q, .int .u64 G, .int .u64 H, .slice a n cap]] w0 fun e w' => e = .returned (.bool (goodB P Q G H rs)) ∧ Same w0 w' := by
  obtain ⟨w, bx, eW, eb, hS0, c0, c1, c2, c3, c4⟩ := par_box w0 P Q G H (.slice a n cap)
  have EW := Lib.hid eW
  have EB := Lib.hid eb
  clear eW eb
  have HU := Lib.hid (And.intro hP (And.intro hQ (And.intro hG hH)))
  clear hP hQ hG hH
  have h := h0.same hS0
  clear h0
  have hlen := h.len
  have hsmall := h.small
  have HLen := Lib.hid hlen
  clear hlen
  by_cases hn : n ≤ 80
  · have h64 : decide ((80 : Int) < n) = false := decide_eq_false (by omega)
    go_enter Try.func10, Try.ntmps10
    go_upto_region 1 with fail
    rw [EW.out, EB.out]
    go_wp2_with fail
    go_loopw [12] (fun s12 wr => ∃ i : Nat, s12 = .int .i64 i ∧ i ≤ n ∧ Hid (∀ j, j < i → (rs.getD j default).f.length ≤ 40) ∧ Same w wr) (fun s12 _ => n - (intOf s12).toNat)
    case atStart => exact ⟨0, rfl, by omega, fun j hj => by omega, Same.refl w⟩
    case round =>
      obtain ⟨i, rfl, hi, hup, hS⟩ := hrel
      by_cases hlt : i < n
      · obtain ⟨b, off, ha, hrows⟩ := h.rows (by omega)
        subst ha
        have hrow := (hrows i hlt).same hS
        obtain ⟨r, hr⟩ : ∃ r, r = rs.getD i default := ⟨_, rfl⟩
        rw [← hr] at hrow
        obtain ⟨r0, r1, ⟨fa, fn, fc, r2, hf⟩, hnb, hab⟩ := hrow
        have hfl := hf.len
        have hfs := hf.small
        by_cases h40 : fn ≤ 40
        · have d40 : decide ((40 : Int) < fn) = false := decide_eq_false (by omega)
          have hup2 : Hid (∀ j, j < i + 1 → (rs.getD j default).f.length ≤ 40) := fun j hj => by
            by_cases e : j = i
            · subst e; rw [← hr, hfl]; exact h40
            · exact hup.out j (by omega)
          clear hr hrows hup hf hfl hnb hab
          go_wp2_with fail
          go_roundw
          case rel => exact ⟨i + 1, by go_num, by omega, hup2, hS.alloc _⟩
          case measure => simp [intOf]; omega
        · have d40 : decide ((40 : Int) < fn) = true := decide_eq_true (by omega)
          have hb := goodB_no (P := P) (Q := Q) (G := G) (H := H) (rs := rs) (fun hA => h40 (by have := hA.1.2 i (by rw [HLen.out]; exact hlt); rw [← hr, hfl] at this; exact this))
          have HB := Lib.hid hb
          clear hr hrows hup hf hfl hnb hab hb h40
          go_wp2_with fail
          go_ret
          exact ⟨ret_bool HB.out.symm, hS0.trans (hS.alloc _)⟩
      · obtain rfl : i = n := by omega
        have hb := goodB_eq (P := P) (Q := Q) (G := G) (H := H) (rs := rs) ⟨by rw [HLen.out]; exact hn, by rw [HLen.out]; exact hup.out⟩
        have HB := Lib.hid hb
        have HW := Lib.hid (h.same hS)
        have k0 := same_cell hS c0
        have k1 := same_cell hS c1
        have k2 := same_cell hS c2
        have k3 := same_cell hS c3
        have k4 := same_cell hS c4
        clear hb hup h c0 c1 c2 c3 c4
        go_wp2_with fail
        refine (rright_any P Q G H a i cap rs HU.out.1 HU.out.2.1 HU.out.2.2.1 HU.out.2.2.2 _ HW.out).mono ?_
        rintro e1 w1 ⟨rfl, hT⟩
        rw [HB.out]
        go_wp2_with fail
        go_ret
        exact ⟨rfl, hS0.trans (hS.trans hT)⟩
  · have h64 : decide ((80 : Int) < n) = true := decide_eq_true (by omega)
    have hb := goodB_no (P := P) (Q := Q) (G := G) (H := H) (rs := rs) (fun hA => by have := hA.1.1; rw [HLen.out] at this; omega)
    have HB := Lib.hid hb
    clear hb hn
    go_enter Try.func10, Try.ntmps10
    go_upto_region 1 with fail
    rw [EW.out, EB.out]
    go_wp2_with fail
    go_ret
    exact ⟨ret_bool HB.out.symm, hS0⟩

end Go.Proofs.Ytfoncfojljmimaa
/- The law's all: are these elements? -/
namespace Go.Proofs.Ytfoncfojljmimaa
open Go.RowKit NT
def AllE (P Q : Int) (xs : List Int) : Prop := ∀ x ∈ xs, InP P Q x
noncomputable def allB (P Q : Int) (xs : List Int) : Bool := open Classical in decide (AllE P Q xs)
theorem allB_yes {P Q : Int} {xs : List Int} (h : AllE P Q xs) : allB P Q xs = true := by unfold allB; classical exact decide_eq_true h
theorem allB_no {P Q : Int} {xs : List Int} (h : ¬ AllE P Q xs) : allB P Q xs = false := by unfold allB; classical exact decide_eq_false h
theorem allB_iff {P Q : Int} {xs : List Int} : allB P Q xs = true ↔ AllE P Q xs := by unfold allB; classical exact decide_eq_true_iff
theorem all_any (P Q G H : Int) (ra : Option Addr) (rn rc : Nat) (a : Option Addr) (n cap : Nat) (xs : List Int) (P0 : 0 ≤ P) (Q0 : 0 ≤ Q) (Q1 : Q < 18446744073709551616) (w : World) (h : IntsAt w a n xs) :
    Calls Try.prog 11 #[.agg #[.int .u64 P, .int .u64 Q, .int .u64 G, .int .u64 H, .slice ra rn rc], .slice a n cap] w fun z w' => z = .returned (.bool (allB P Q xs)) ∧ Same w w' := by
  obtain ⟨W, bx, eW, eb, hS, c0, c1, c2, c3, c4⟩ := par_box w P Q G H (.slice ra rn rc)
  have EW := Lib.hid eW
  have EB := Lib.hid eb
  clear eW eb
  have hlen := h.len
  have hsmall := h.small
  have HLen := Lib.hid hlen
  have h1 := h.same hS
  clear hlen h
  go_enter Try.func11, Try.ntmps11
  go_upto_region 1 with fail
  rw [EW.out, EB.out]
  go_wp2_with fail
  go_loopw [9] (fun s10 wr => ∃ i : Nat, s10 = .int .i64 i ∧ i ≤ n ∧ Hid (∀ j, j < i → InP P Q (xs.getD j 0)) ∧ Same W wr) (fun s10 _ => n - (intOf s10).toNat)
  case atStart => exact ⟨0, rfl, by omega, fun j hj => by omega, Same.refl _⟩
  case round =>
    obtain ⟨i, rfl, hi, hup, hD⟩ := hrel
    have k0 := same_cell hD c0
    have k1 := same_cell hD c1
    have k2 := same_cell hD c2
    have k3 := same_cell hD c3
    have k4 := same_cell hD c4
    clear c0 c1 c2 c3 c4
    by_cases hlt : i < n
    · obtain ⟨b, off, ha, hcells⟩ := h1.cells (by omega)
      subst ha
      obtain ⟨x, hx⟩ : ∃ x, xs.getD i 0 = x := ⟨_, rfl⟩
      have hc := same_cell hD (hcells i hlt)
      have hx0 := (h1.bd i).1
      rw [hx] at hc hx0
      by_cases hin : InP P Q x
      · have hB := Lib.hid (inB_yes hin)
        have hup2 : Hid (∀ j, j < i + 1 → InP P Q (xs.getD j 0)) := fun j hj => by
          by_cases e : j = i
          · subst e; rw [hx]; exact hin
          · exact hup.out j (by omega)
        clear hx hcells hin hup
        go_wp2_with fail
        refine (rin_any P Q G H ra rn rc x P0 Q0 Q1 hx0 _).mono ?_
        rintro e1 w1 ⟨rfl, hT⟩
        rw [hB.out]
        go_wp2_with fail
        go_roundw
        case rel => exact ⟨i + 1, by go_num, by omega, hup2, hD.trans hT⟩
        case measure => simp [intOf]; omega
      · have hB := Lib.hid (inB_no hin)
        have hb := allB_no (P := P) (Q := Q) (xs := xs) (fun hA => hin (by
          rw [← hx]
          have hl : i < xs.length := by rw [HLen.out]; exact hlt
          rw [show xs.getD i 0 = xs[i] by simp [List.getD, hl]]
          exact hA _ (List.getElem_mem hl)))
        have HB := Lib.hid hb
        clear hx hcells hin hup hb
        go_wp2_with fail
        refine (rin_any P Q G H ra rn rc x P0 Q0 Q1 hx0 _).mono ?_
        rintro e1 w1 ⟨rfl, hT⟩
        rw [hB.out]
        go_wp2_with fail
        go_ret
        exact ⟨ret_bool HB.out.symm, hS.trans (hD.trans hT)⟩
    · obtain rfl : i = n := by omega
      have hb := allB_yes (P := P) (Q := Q) (xs := xs) (fun x hx => by
        obtain ⟨j, hj, e⟩ := List.getElem_of_mem hx
        have := hup.out j (by rw [← HLen.out]; exact hj)
        rw [show xs.getD j 0 = xs[j] by simp [List.getD, hj], e] at this
        exact this)
      have HB := Lib.hid hb
      clear hup hb
      go_wp2_with fail
      go_ret
      exact ⟨ret_bool HB.out.symm, hS.trans hD⟩
end Go.Proofs.Ytfoncfojljmimaa
