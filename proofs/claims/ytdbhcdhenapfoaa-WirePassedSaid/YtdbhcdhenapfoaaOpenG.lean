/- Layer 10: what is passed, out of its reading. -/
import Derived.Test.YtdbhcdhenapfoaaLaw10P
import Derived.Test.YtdbhcdhenapfoaaOpenW
set_option linter.unusedVariables false
set_option linter.unusedSimpArgs false
namespace Go.Proofs.Ytdbhcdhenapfoaa
open Go.RowKit Go.ChangeShapes Go.WideShapes Go.Deep
section
variable {H : Type} {enc : TypeId × Value → H} {W : World}
theorem cells_three : Try.prog.cellsOf 58 = 3 := by kernel_rfl
theorem cells_threes : Try.prog.cellsOf 59 = 9 := by kernel_rfl
theorem cells_proofs : Try.prog.cellsOf 60 = 6 := by kernel_rfl
theorem cells_pass : Try.prog.cellsOf 62 = 15 := by kernel_rfl
set_option maxRecDepth 20000 in
theorem rd_three {cs : List Value} (h : Rd enc W 58 cs) : ∃ u0 u1 u2 : Int, cs = [.int .u64 u0, .int .u64 u1, .int .u64 u2] ∧ U64 u0 ∧ U64 u1 ∧ U64 u2 := by
  obtain ⟨hlen, hf⟩ := rd_struct Try.underlying58 h
  rw [cells_three] at hlen
  match cs, hlen with
  | [c0, c1, c2], _ =>
    have h0 : Rd enc W 33 (([c0, c1, c2].drop 0).take (Try.prog.cellsOf 33)) := hf 0 _ rfl
    have h1 : Rd enc W 33 (([c0, c1, c2].drop 1).take (Try.prog.cellsOf 33)) := hf 1 _ rfl
    have h2 : Rd enc W 33 (([c0, c1, c2].drop 2).take (Try.prog.cellsOf 33)) := hf 2 _ rfl
    rw [cells_u64] at h0 h1 h2
    obtain ⟨x0, e0, w0⟩ := rd_u64 h0
    obtain ⟨x1, e1, w1⟩ := rd_u64 h1
    obtain ⟨x2, e2, w2⟩ := rd_u64 h2
    simp at e0 e1 e2
    subst e0 e1 e2
    exact ⟨_, _, _, rfl, w0, w1, w2⟩
theorem rd_threes {cs : List Value} (h : Rd enc W 59 cs) : ∃ x0 x1 x2 x3 x4 x5 x6 x7 x8 : Int, cs = [.int .u64 x0, .int .u64 x1, .int .u64 x2, .int .u64 x3, .int .u64 x4, .int .u64 x5, .int .u64 x6, .int .u64 x7, .int .u64 x8] ∧ ∀ x ∈ [x0, x1, x2, x3, x4, x5, x6, x7, x8], U64 x := by
  obtain ⟨hlen, hf⟩ := rd_array Try.underlying59 h
  rw [cells_threes] at hlen
  rw [cells_three] at hf
  match cs, hlen with
  | [c0, c1, c2, c3, c4, c5, c6, c7, c8], _ =>
    obtain ⟨x0, x1, x2, e0, u0, u1, u2⟩ := rd_three (hf 0 (by omega))
    obtain ⟨x3, x4, x5, e1, u3, u4, u5⟩ := rd_three (hf 1 (by omega))
    obtain ⟨x6, x7, x8, e2, u6, u7, u8⟩ := rd_three (hf 2 (by omega))
    simp at e0 e1 e2
    obtain ⟨rfl, rfl, rfl⟩ := e0
    obtain ⟨rfl, rfl, rfl⟩ := e1
    obtain ⟨rfl, rfl, rfl⟩ := e2
    exact ⟨x0, x1, x2, x3, x4, x5, x6, x7, x8, rfl, fun x hx => by simp at hx; rcases hx with rfl | rfl | rfl | rfl | rfl | rfl | rfl | rfl | rfl <;> assumption⟩
theorem rd_proofs {cs : List Value} (h : Rd enc W 60 cs) : ∃ p0 m0 d0 p1 m1 d1 p2 m2 d2 p3 m3 d3 p4 m4 d4 p5 m5 d5, ∃ q0 q1 q2 : ProofD, cs = [.slice p0 m0 d0, .slice p1 m1 d1, .slice p2 m2 d2, .slice p3 m3 d3, .slice p4 m4 d4, .slice p5 m5 d5] ∧ IntsAt W p0 m0 q0.1 ∧ IntsAt W p1 m1 q0.2 ∧ IntsAt W p2 m2 q1.1 ∧ IntsAt W p3 m3 q1.2 ∧ IntsAt W p4 m4 q2.1 ∧ IntsAt W p5 m5 q2.2 := by
  obtain ⟨hlen, hf⟩ := rd_array Try.underlying60 h
  rw [cells_proofs] at hlen
  rw [cells_proof] at hf
  match cs, hlen with
  | [c0, c1, c2, c3, c4, c5], _ =>
    obtain ⟨p0, m0, d0, p1, m1, d1, q0, e0, i0, i1⟩ := rd_proof (hf 0 (by omega))
    obtain ⟨p2, m2, d2, p3, m3, d3, q1, e1, i2, i3⟩ := rd_proof (hf 1 (by omega))
    obtain ⟨p4, m4, d4, p5, m5, d5, q2, e2, i4, i5⟩ := rd_proof (hf 2 (by omega))
    simp at e0 e1 e2
    obtain ⟨rfl, rfl⟩ := e0
    obtain ⟨rfl, rfl⟩ := e1
    obtain ⟨rfl, rfl⟩ := e2
    exact ⟨p0, m0, d0, p1, m1, d1, p2, m2, d2, p3, m3, d3, p4, m4, d4, p5, m5, d5, q0, q1, q2, rfl, i0, i1, i2, i3, i4, i5⟩
set_option maxRecDepth 20000 in
theorem rd_pass {cs : List Value} (h : Rd enc W 62 cs) : ∃ x0 x1 x2 x3 x4 x5 x6 x7 x8 p0 m0 d0 p1 m1 d1 p2 m2 d2 p3 m3 d3 p4 m4 d4 p5 m5 d5, ∃ q0 q1 q2 : ProofD, cs = [.int .u64 x0, .int .u64 x1, .int .u64 x2, .int .u64 x3, .int .u64 x4, .int .u64 x5, .int .u64 x6, .int .u64 x7, .int .u64 x8, .slice p0 m0 d0, .slice p1 m1 d1, .slice p2 m2 d2, .slice p3 m3 d3, .slice p4 m4 d4, .slice p5 m5 d5] ∧ (∀ x ∈ [x0, x1, x2, x3, x4, x5, x6, x7, x8], U64 x) ∧ IntsAt W p0 m0 q0.1 ∧ IntsAt W p1 m1 q0.2 ∧ IntsAt W p2 m2 q1.1 ∧ IntsAt W p3 m3 q1.2 ∧ IntsAt W p4 m4 q2.1 ∧ IntsAt W p5 m5 q2.2 := by
  obtain ⟨hlen, hf⟩ := rd_struct Try.underlying62 h
  rw [cells_pass] at hlen
  match cs, hlen with
  | [c0, c1, c2, c3, c4, c5, c6, c7, c8, c9, c10, c11, c12, c13, c14], _ =>
    have h0 : Rd enc W 59 (([c0, c1, c2, c3, c4, c5, c6, c7, c8, c9, c10, c11, c12, c13, c14].drop 0).take (Try.prog.cellsOf 59)) := hf 0 _ rfl
    have h1 : Rd enc W 60 (([c0, c1, c2, c3, c4, c5, c6, c7, c8, c9, c10, c11, c12, c13, c14].drop 9).take (Try.prog.cellsOf 60)) := hf 1 _ rfl
    rw [cells_threes] at h0
    rw [cells_proofs] at h1
    obtain ⟨x0, x1, x2, x3, x4, x5, x6, x7, x8, e0, hu⟩ := rd_threes h0
    obtain ⟨p0, m0, d0, p1, m1, d1, p2, m2, d2, p3, m3, d3, p4, m4, d4, p5, m5, d5, q0, q1, q2, e1, i0, i1, i2, i3, i4, i5⟩ := rd_proofs h1
    simp at e0 e1
    obtain ⟨rfl, rfl, rfl, rfl, rfl, rfl, rfl, rfl, rfl⟩ := e0
    obtain ⟨rfl, rfl, rfl, rfl, rfl, rfl⟩ := e1
    exact ⟨x0, x1, x2, x3, x4, x5, x6, x7, x8, p0, m0, d0, p1, m1, d1, p2, m2, d2, p3, m3, d3, p4, m4, d4, p5, m5, d5, q0, q1, q2, rfl, hu, i0, i1, i2, i3, i4, i5⟩
theorem rd_passl {cs : List Value} (h : Rd enc W 51 cs) : ∃ a n cap ls, cs = [.slice a n cap] ∧ n ≤ cap ∧ cap ≤ 9223372036854775807 ∧ PassAt W a n ls := by
  obtain ⟨a, n, cap, hcs, hl, hm, hi⟩ := rd_slice Try.underlying51 (c := 15) cells_pass h
  have hn : ∀ i, i < n → ∃ l : PassD, ∃ ad x0 x1 x2 x3 x4 x5 x6 x7 x8 p0 m0 d0 p1 m1 d1 p2 m2 d2 p3 m3 d3 p4 m4 d4 p5 m5 d5 q0 q1 q2, a = some ad ∧ l = ([x0, x1, x2, x3, x4, x5, x6, x7, x8], [q0, q1, q2]) ∧ (∀ x ∈ [x0, x1, x2, x3, x4, x5, x6, x7, x8], U64 x) ∧
      (∀ j, j < 15 → W.cell? (ad.add (i * 15 + j)) = [Value.int .u64 x0, .int .u64 x1, .int .u64 x2, .int .u64 x3, .int .u64 x4, .int .u64 x5, .int .u64 x6, .int .u64 x7, .int .u64 x8, .slice p0 m0 d0, .slice p1 m1 d1, .slice p2 m2 d2, .slice p3 m3 d3, .slice p4 m4 d4, .slice p5 m5 d5][j]?) ∧ IntsAt W p0 m0 q0.1 ∧ IntsAt W p1 m1 q0.2 ∧ IntsAt W p2 m2 q1.1 ∧ IntsAt W p3 m3 q1.2 ∧ IntsAt W p4 m4 q2.1 ∧ IntsAt W p5 m5 q2.2 := by
    intro i hlt
    obtain ⟨ad, cs', ha, hlen, hcell, hrd⟩ := hi i hlt
    obtain ⟨x0, x1, x2, x3, x4, x5, x6, x7, x8, p0, m0, d0, p1, m1, d1, p2, m2, d2, p3, m3, d3, p4, m4, d4, p5, m5, d5, q0, q1, q2, e, hu, hI⟩ := rd_pass hrd
    subst e
    exact ⟨([x0, x1, x2, x3, x4, x5, x6, x7, x8], [q0, q1, q2]), ad, x0, x1, x2, x3, x4, x5, x6, x7, x8, p0, m0, d0, p1, m1, d1, p2, m2, d2, p3, m3, d3, p4, m4, d4, p5, m5, d5, q0, q1, q2, ha, rfl, hu, hcell, hI⟩
  obtain ⟨f, hf⟩ := Go.Deep.choose_lt hn
  refine ⟨a, n, cap, (List.range n).map f, hcs, hl, hm, by simp, by omega, fun j hj => ?_⟩
  obtain ⟨ad, x0, x1, x2, x3, x4, x5, x6, x7, x8, p0, m0, d0, p1, m1, d1, p2, m2, d2, p3, m3, d3, p4, m4, d4, p5, m5, d5, q0, q1, q2, ha, e1, hu, hc, hI⟩ := hf j hj
  obtain ⟨ad0, z0, _, _, _, _, _, _, _, _, _, _, _, _, _, _, _, _, _, _, _, _, _, _, _, _, _, _, _, _, _, ha0, _, _, hc0, _⟩ := hf 0 (by omega)
  have hp := hc0 0 (by omega)
  simp only [List.getElem?_cons_zero] at hp
  obtain rfl : ad0 = ad := Option.some.inj (ha0.symm.trans ha)
  have hp : W.cell? ad0 = some (.int .u64 z0) := by simpa [Addr.add] using hp
  obtain ⟨b', off', e⟩ := plain_of hp
  subst e
  have eg : ((List.range n).map f).getD j ([], []) = f j := by simp [List.getD, hj]
  rw [eg]
  refine ⟨b', off', x0, x1, x2, x3, x4, x5, x6, x7, x8, p0, m0, d0, p1, m1, d1, p2, m2, d2, p3, m3, d3, p4, m4, d4, p5, m5, d5, q0, q1, q2, ha, e1, hu, fun i hi => ?_, hI⟩
  have := hc i hi
  rw [Go.WideShapes.add_plain] at this
  rw [← this, Nat.add_assoc]
end
end Go.Proofs.Ytdbhcdhenapfoaa
