/- Layer 14: acts, out of their reading; what came in weighs no more than memory reaches. -/
import Derived.Test.YtchmhpfccanamaaDropR
import Derived.Test.YtchmhpfccanamaaOpen14
import Derived.SizedLaws
set_option linter.unusedVariables false
set_option linter.unusedSimpArgs false
namespace Go.Proofs.Ytchmhpfccanamaa
open Go.RowKit Go.ChangeShapes Go.WideShapes Go.Deep
instance : Inhabited ActD := ⟨ac0⟩
/-- read whole, and no slice in it is longer than memory reaches -/
abbrev Rz {H : Type} (enc : TypeId × Value → H) (W : World) (t : TypeId) (cs : List Value) : Prop := ∃ fuel x, DataW.trod enc Try.prog W 0 (fun _ => true) true fuel t cs = some x ∧ ∀ n ∈ x.1.weights Try.prog t, n ≤ reachBytes
section
variable {H : Type} {enc : TypeId × Value → H} {W : World}
theorem Rz.rd {t : TypeId} {cs : List Value} (h : Rz enc W t cs) : Rd enc W t cs := by
  obtain ⟨fuel, x, h, _⟩ := h
  exact ⟨fuel, x, h⟩
theorem weights_all {P : Program} {e : TypeId} : ∀ {ds : List (DataW H)} {d : DataW H}, d ∈ ds → ∀ n ∈ d.weights P e, n ∈ DataW.weightsAll P e ds
  | [], _, h, _, _ => by cases h
  | c :: cs, d, h, n, hn => by
    rw [DataW.weightsAll, List.mem_append]
    rcases List.mem_cons.1 h with rfl | h
    · exact Or.inl hn
    · exact Or.inr (weights_all h n hn)
theorem rz_slice {t e : TypeId} {c : Nat} (ht : Try.prog.underlying t = some (.slice e)) (hc : Try.prog.cellsOf e = c) {cs : List Value} (h : Rz enc W t cs) :
    ∃ a n cap, cs = [.slice a n cap] ∧ n ≤ cap ∧ cap ≤ 9223372036854775807 ∧ n * Try.prog.bytesOf e ≤ reachBytes ∧ ∀ i, i < n → ∃ ad cs', a = some ad ∧ cs'.length = c ∧ (∀ j, j < c → W.cell? (ad.add (i * c + j)) = cs'[j]?) ∧ Rz enc W e cs' := by
  obtain ⟨fuel, x, h, hw⟩ := h
  rcases open_slice ht h with ⟨e, _⟩ | ⟨a, len, cap, m, n, D, Pl, hcs, hb, hl, hm, hmm, hx, hi⟩
  · exact ⟨none, 0, 0, e, by omega, by omega, by simp, fun i hi => by omega⟩
  · simp only [if_true] at hmm
    have hx1 : x.1 = .slice ((List.range len).map D) ((List.range (m - len)).map fun j => D (len + j)) := by rw [hx]
    rw [hx1, DataW.weights, ht] at hw
    simp only [List.length_map, List.length_range] at hw
    refine ⟨some a, len, cap, hcs, hl, hm, ?_, fun i hlt => ?_⟩
    · have := hw _ (List.mem_cons_self)
      exact Nat.le_trans (Nat.mul_le_mul_right _ (by omega)) this
    · obtain ⟨cs', h1, h2⟩ := hi i (by omega)
      rw [hc] at h1
      obtain ⟨_, h3, h4⟩ := World.cells?_some h1
      refine ⟨a, cs', rfl, h3, fun j hj => by rw [← Go.Deep.add_add]; exact h4 j hj, _, _, h2, fun k hk => hw k (List.mem_cons_of_mem _ (List.mem_append_left _ ?_))⟩
      exact weights_all (List.mem_map.2 ⟨i, by simpa using hlt, rfl⟩) k hk
theorem rz_struct {t : TypeId} {fs : Array Field} (ht : Try.prog.underlying t = some (.struct fs)) {cs : List Value} (h : Rz enc W t cs) :
    cs.length = Try.prog.cellsOf t ∧ ∀ (i : Nat) (f : Field), fs[i]? = some f → Rz enc W f.type ((cs.drop f.offset).take (Try.prog.cellsOf f.type)) := by
  obtain ⟨fuel, x, h, hw⟩ := h
  obtain ⟨xs, n, _, hx, hlen, hxl, hf⟩ := DataW.trod_struct ht h
  refine ⟨hlen, fun i f hi => ?_⟩
  have hlt : i < xs.length := by rw [hxl]; exact (Array.getElem?_eq_some_iff.1 hi).1
  refine ⟨n, xs[i], by rw [hf i f hi]; exact List.getElem?_eq_getElem hlt, fun k hk => hw k ?_⟩
  have hx1 : x.1 = .agg (xs.map (·.1)) := by rw [hx]
  rw [hx1, DataW.weights, ht]
  exact DataW.weights_mem_each (j := i) (t := f.type) (d := xs[i].1) (by simp [hi]) (by simp [hlt]) k hk
theorem rz_notes {cs : List Value} (h : Rz enc W 22 cs) : ∃ a n cap l, cs = [.slice a n cap] ∧ n * 24 ≤ 140737488355328 ∧ NotesAt W a n l := by
  obtain ⟨a, n, cap, hcs, _, _, hz, _⟩ := rz_slice Try.underlying22 (c := 3) cells_note h
  obtain ⟨a', n', cap', l, e, _, _, hn⟩ := rd_notes h.rd
  rw [hcs] at e
  simp at e
  obtain ⟨rfl, rfl, rfl⟩ := e
  rw [show Try.prog.bytesOf 25 = 24 by kernel_rfl] at hz
  exact ⟨a, n, cap, l, hcs, by have : reachBytes = 140737488351232 := rfl; omega, hn⟩
theorem cells_notes : Try.prog.cellsOf 22 = 1 := by kernel_rfl
theorem cells_act : Try.prog.cellsOf 38 = 6 := by kernel_rfl
theorem cells_body : Try.prog.cellsOf 32 = 2 := by kernel_rfl
theorem rd_body {cs : List Value} (h : Rd enc W 32 cs) : ∃ e f : Int, cs = [.int .u64 e, .int .u64 f] := by
  obtain ⟨hlen, hf⟩ := rd_array Try.underlying32 h
  rw [cells_body] at hlen
  rw [cells_u64] at hf
  match cs, hlen with
  | [c0, c1], _ =>
    obtain ⟨x0, e0, _⟩ := rd_u64 (hf 0 (by omega))
    obtain ⟨x1, e1, _⟩ := rd_u64 (hf 1 (by omega))
    simp at e0 e1
    subst e0 e1
    exact ⟨x0, x1, rfl⟩
theorem rz_act {cs : List Value} (h : Rz enc W 38 cs) : ∃ x : ActD, cs = [.int .i64 x.what, .int .i64 x.round, .slice x.na x.nn x.nc, .int .u64 x.place, .int .u64 x.e, .int .u64 x.f] ∧ ActAt W x := by
  obtain ⟨hlen, hf⟩ := rz_struct Try.underlying38 h
  rw [cells_act] at hlen
  match cs, hlen with
  | [d0, d1, d2, d3, d4, d5], _ =>
    have h0 : Rz enc W 3 (([d0, d1, d2, d3, d4, d5].drop 0).take (Try.prog.cellsOf 3)) := hf 0 _ rfl
    have h1 : Rz enc W 3 (([d0, d1, d2, d3, d4, d5].drop 1).take (Try.prog.cellsOf 3)) := hf 1 _ rfl
    have h2 : Rz enc W 22 (([d0, d1, d2, d3, d4, d5].drop 2).take (Try.prog.cellsOf 22)) := hf 2 _ rfl
    have h3 : Rz enc W 23 (([d0, d1, d2, d3, d4, d5].drop 3).take (Try.prog.cellsOf 23)) := hf 3 _ rfl
    have h4 : Rz enc W 32 (([d0, d1, d2, d3, d4, d5].drop 4).take (Try.prog.cellsOf 32)) := hf 4 _ rfl
    rw [cells_int] at h0 h1
    rw [cells_notes] at h2
    rw [cells_u64] at h3
    rw [cells_body] at h4
    obtain ⟨x0, e0, _⟩ := rd_int h0.rd
    obtain ⟨x1, e1, u1⟩ := rd_int h1.rd
    obtain ⟨na, nn, nc, l, e2, hz, hn⟩ := rz_notes h2
    obtain ⟨x3, e3, u3⟩ := rd_u64 h3.rd
    obtain ⟨e, f, e4⟩ := rd_body h4.rd
    simp at e0 e1 e2 e3 e4
    obtain ⟨e4, e5⟩ := e4
    subst e0 e1 e2 e3 e4 e5
    exact ⟨⟨x0, x1, na, nn, nc, l, x3, e, f⟩, rfl, hn, u3, hz, u1⟩
theorem rz_acts {cs : List Value} (h : Rz enc W 36 cs) : ∃ a n cap xs, cs = [.slice a n cap] ∧ n ≤ cap ∧ cap ≤ 9223372036854775807 ∧ ActsAt W a n xs := by
  obtain ⟨a, n, cap, hcs, hl, hm, _, hi⟩ := rz_slice Try.underlying36 (c := 6) cells_act h
  have hn : ∀ i, i < n → ∃ x : ActD, ActAt W x ∧ ∃ ad, a = some ad ∧ W.cell? (ad.add (i * 6)) = some (.int .i64 x.what) ∧ W.cell? (ad.add (i * 6 + 1)) = some (.int .i64 x.round) ∧ W.cell? (ad.add (i * 6 + 2)) = some (.slice x.na x.nn x.nc) ∧
      W.cell? (ad.add (i * 6 + 3)) = some (.int .u64 x.place) ∧ W.cell? (ad.add (i * 6 + 4)) = some (.int .u64 x.e) ∧ W.cell? (ad.add (i * 6 + 5)) = some (.int .u64 x.f) := by
    intro i hlt
    obtain ⟨ad, cs', ha, hlen, hcell, hrz⟩ := hi i hlt
    obtain ⟨x, e, hx⟩ := rz_act hrz
    have c0 := hcell 0 (by omega)
    have c1 := hcell 1 (by omega)
    have c2 := hcell 2 (by omega)
    have c3 := hcell 3 (by omega)
    have c4 := hcell 4 (by omega)
    have c5 := hcell 5 (by omega)
    rw [e] at c0 c1 c2 c3 c4 c5
    exact ⟨x, hx, ad, ha, by simpa using c0, by simpa using c1, by simpa using c2, by simpa using c3, by simpa using c4, by simpa using c5⟩
  obtain ⟨f, hf⟩ := Go.Deep.choose_lt hn
  have hg : ∀ j, j < n → ((List.range n).map f).getD j ac0 = f j := fun j hj => by simp [List.getD, hj]
  refine ⟨a, n, cap, (List.range n).map f, hcs, hl, hm, by simp, fun h0 => ?_, fun j hj => by rw [hg j hj]; exact (hf j hj).1⟩
  obtain ⟨_, ad, ha, hc0, _⟩ := hf 0 h0
  have hc0' : W.cell? ad = some (.int .i64 (f 0).what) := by simpa [Addr.add] using hc0
  obtain ⟨b, off, e⟩ := plain_of hc0'
  subst e
  refine ⟨b, off, ha, fun j hj => ?_⟩
  obtain ⟨_, ad', ha', k0, k1, k2, k3, k4, k5⟩ := hf j hj
  rw [ha] at ha'
  obtain rfl := Option.some.inj ha'
  rw [Go.WideShapes.add_plain] at k0 k1 k2 k3 k4 k5
  rw [hg j hj]
  refine ⟨k0, ?_, ?_, ?_, ?_, ?_⟩
  · rw [Nat.add_assoc]; exact k1
  · rw [Nat.add_assoc]; exact k2
  · rw [Nat.add_assoc]; exact k3
  · rw [Nat.add_assoc]; exact k4
  · rw [Nat.add_assoc]; exact k5
end
end Go.Proofs.Ytchmhpfccanamaa
