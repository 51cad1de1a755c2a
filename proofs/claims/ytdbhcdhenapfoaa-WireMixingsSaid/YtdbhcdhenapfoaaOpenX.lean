/- Layer 10: a mixing out of its reading. -/
import Derived.Test.YtdbhcdhenapfoaaLaw10M
import Derived.Test.YtdbhcdhenapfoaaOpenW
set_option linter.unusedVariables false
set_option linter.unusedSimpArgs false
namespace Go.Proofs.Ytdbhcdhenapfoaa
open Go.RowKit Go.ChangeShapes Go.WideShapes Go.Deep
section
variable {H : Type} {enc : TypeId × Value → H} {W : World}
theorem cells_lets : Try.prog.cellsOf 22 = 1 := by kernel_rfl
theorem cells_boxes : Try.prog.cellsOf 23 = 1 := by kernel_rfl
theorem cells_shown : Try.prog.cellsOf 28 = 5 := by kernel_rfl
theorem cells_mix : Try.prog.cellsOf 30 = 7 := by kernel_rfl
theorem rd_lets {cs : List Value} (h : Rd enc W 22 cs) : ∃ a n cap ls, cs = [.slice a n cap] ∧ n ≤ cap ∧ cap ≤ 9223372036854775807 ∧ LetsAt W a n ls := by
  obtain ⟨a, n, cap, hcs, hl, hm, hi⟩ := rd_slice Try.underlying22 (c := 8) cells_let h
  have hn : ∀ i, i < n → ∃ l : LetterD, ∃ ad x0 x1 x2 x3 x4 x5 a1 n1 c1 a2 n2 c2, a = some ad ∧ l.1 = [x0, x1, x2, x3, x4, x5] ∧ (∀ x ∈ [x0, x1, x2, x3, x4, x5], U64 x) ∧
      (∀ j, j < 8 → W.cell? (ad.add (i * 8 + j)) = [Value.int .u64 x0, .int .u64 x1, .int .u64 x2, .int .u64 x3, .int .u64 x4, .int .u64 x5, .slice a1 n1 c1, .slice a2 n2 c2][j]?) ∧ IntsAt W a1 n1 l.2.1 ∧ IntsAt W a2 n2 l.2.2 := by
    intro i hlt
    obtain ⟨ad, cs', ha, hlen, hcell, hrd⟩ := hi i hlt
    obtain ⟨x0, x1, x2, x3, x4, x5, a1, n1, c1, a2, n2, c2, p, e, hu, i1, i2⟩ := rd_letter hrd
    subst e
    exact ⟨([x0, x1, x2, x3, x4, x5], p), ad, x0, x1, x2, x3, x4, x5, a1, n1, c1, a2, n2, c2, ha, rfl, hu, hcell, i1, i2⟩
  obtain ⟨f, hf⟩ := Go.Deep.choose_lt hn
  refine ⟨a, n, cap, (List.range n).map f, hcs, hl, hm, by simp, by omega, fun j hj => ?_⟩
  obtain ⟨ad, x0, x1, x2, x3, x4, x5, a1, n1, c1, a2, n2, c2, ha, e1, hu, hc, i1, i2⟩ := hf j hj
  obtain ⟨ad0, z0, z1, z2, z3, z4, z5, q1, q2, q3, q4, q5, q6, ha0, _, _, hc0, _, _⟩ := hf 0 (by omega)
  have hp := hc0 0 (by omega)
  simp only [List.getElem?_cons_zero] at hp
  obtain rfl : ad0 = ad := Option.some.inj (ha0.symm.trans ha)
  have hp : W.cell? ad0 = some (.int .u64 z0) := by simpa [Addr.add] using hp
  obtain ⟨b', off', e⟩ := plain_of hp
  subst e
  have eg : ((List.range n).map f).getD j ([], [], []) = f j := by simp [List.getD, hj]
  rw [eg]
  refine ⟨b', off', x0, x1, x2, x3, x4, x5, a1, n1, c1, a2, n2, c2, ha, e1, hu, fun i hi => ?_, i1, i2⟩
  have := hc i hi
  rw [Go.WideShapes.add_plain] at this
  rw [← this, Nat.add_assoc]
theorem rd_boxes {cs : List Value} (h : Rd enc W 23 cs) : ∃ a n cap bs, cs = [.slice a n cap] ∧ n ≤ cap ∧ cap ≤ 9223372036854775807 ∧ BoxesAt W a n bs := by
  obtain ⟨a, n, cap, hcs, hl, hm, hi⟩ := rd_slice Try.underlying23 (c := 6) cells_boxw h
  have hn : ∀ i, i < n → ∃ l : List Int, ∃ ad x0 x1 x2 x3 x4 x5, a = some ad ∧ l = [x0, x1, x2, x3, x4, x5] ∧ (∀ x ∈ [x0, x1, x2, x3, x4, x5], U64 x) ∧
      (∀ j, j < 6 → W.cell? (ad.add (i * 6 + j)) = [Value.int .u64 x0, .int .u64 x1, .int .u64 x2, .int .u64 x3, .int .u64 x4, .int .u64 x5][j]?) := by
    intro i hlt
    obtain ⟨ad, cs', ha, hlen, hcell, hrd⟩ := hi i hlt
    obtain ⟨x0, x1, x2, x3, x4, x5, e, hu⟩ := rd_box hrd
    subst e
    exact ⟨[x0, x1, x2, x3, x4, x5], ad, x0, x1, x2, x3, x4, x5, ha, rfl, hu, hcell⟩
  obtain ⟨f, hf⟩ := Go.Deep.choose_lt hn
  refine ⟨a, n, cap, (List.range n).map f, hcs, hl, hm, by simp, by omega, fun j hj => ?_⟩
  obtain ⟨ad, x0, x1, x2, x3, x4, x5, ha, e1, hu, hc⟩ := hf j hj
  obtain ⟨ad0, z0, z1, z2, z3, z4, z5, ha0, _, _, hc0⟩ := hf 0 (by omega)
  have hp := hc0 0 (by omega)
  simp only [List.getElem?_cons_zero] at hp
  obtain rfl : ad0 = ad := Option.some.inj (ha0.symm.trans ha)
  have hp : W.cell? ad0 = some (.int .u64 z0) := by simpa [Addr.add] using hp
  obtain ⟨b', off', e⟩ := plain_of hp
  subst e
  have eg : ((List.range n).map f).getD j [] = f j := by simp [List.getD, hj]
  rw [eg]
  refine ⟨b', off', x0, x1, x2, x3, x4, x5, ha, e1, hu, fun i hi => ?_⟩
  have := hc i hi
  rw [Go.WideShapes.add_plain] at this
  rw [← this, Nat.add_assoc]
set_option maxRecDepth 20000 in
theorem rd_shown {cs : List Value} (h : Rd enc W 28 cs) : ∃ a2 n2 c2 a3 n3 c3 a4 n4 c4 a5 n5 c5 a6 n6 c6 xa xo xp, ∃ p : ProofD, cs = [.slice a2 n2 c2, .slice a3 n3 c3, .slice a4 n4 c4, .slice a5 n5 c5, .slice a6 n6 c6] ∧ IntsAt W a2 n2 xa ∧ IntsAt W a3 n3 xo ∧ IntsAt W a4 n4 xp ∧ IntsAt W a5 n5 p.1 ∧ IntsAt W a6 n6 p.2 := by
  obtain ⟨hlen, hf⟩ := rd_struct Try.underlying28 h
  rw [cells_shown] at hlen
  match cs, hlen with
  | [d0, d1, d2, d3, d4], _ =>
    have h0 : Rd enc W 24 (([d0, d1, d2, d3, d4].drop 0).take (Try.prog.cellsOf 24)) := hf 0 _ rfl
    have h1 : Rd enc W 24 (([d0, d1, d2, d3, d4].drop 1).take (Try.prog.cellsOf 24)) := hf 1 _ rfl
    have h2 : Rd enc W 24 (([d0, d1, d2, d3, d4].drop 2).take (Try.prog.cellsOf 24)) := hf 2 _ rfl
    have h3 : Rd enc W 26 (([d0, d1, d2, d3, d4].drop 3).take (Try.prog.cellsOf 26)) := hf 3 _ rfl
    rw [cells_ints] at h0 h1 h2
    rw [cells_proof] at h3
    obtain ⟨a2, n2, c2, xa, e0, _, _, i0⟩ := rd_ints h0
    obtain ⟨a3, n3, c3, xo, e1, _, _, i1⟩ := rd_ints h1
    obtain ⟨a4, n4, c4, xp, e2, _, _, i2⟩ := rd_ints h2
    obtain ⟨a5, n5, c5, a6, n6, c6, p, e3, i3, i4⟩ := rd_proof h3
    simp at e0 e1 e2 e3
    obtain ⟨rfl, rfl⟩ := e3
    subst e0 e1 e2
    exact ⟨a2, n2, c2, a3, n3, c3, a4, n4, c4, a5, n5, c5, a6, n6, c6, xa, xo, xp, p, rfl, i0, i1, i2, i3, i4⟩
set_option maxRecDepth 20000 in
theorem rd_mixing {cs : List Value} (h : Rd enc W 30 cs) : ∃ a0 n0 c0 a1 n1 c1 a2 n2 c2 a3 n3 c3 a4 n4 c4 a5 n5 c5 a6 n6 c6, ∃ x : MixD, cs = [.slice a0 n0 c0, .slice a1 n1 c1, .slice a2 n2 c2, .slice a3 n3 c3, .slice a4 n4 c4, .slice a5 n5 c5, .slice a6 n6 c6] ∧ MixIn W a0 n0 a1 n1 a2 n2 a3 n3 a4 n4 a5 n5 a6 n6 x := by
  obtain ⟨hlen, hf⟩ := rd_struct Try.underlying30 h
  rw [cells_mix] at hlen
  match cs, hlen with
  | [d0, d1, d2, d3, d4, d5, d6], _ =>
    have h0 : Rd enc W 22 (([d0, d1, d2, d3, d4, d5, d6].drop 0).take (Try.prog.cellsOf 22)) := hf 0 _ rfl
    have h1 : Rd enc W 23 (([d0, d1, d2, d3, d4, d5, d6].drop 1).take (Try.prog.cellsOf 23)) := hf 1 _ rfl
    have h2 : Rd enc W 28 (([d0, d1, d2, d3, d4, d5, d6].drop 2).take (Try.prog.cellsOf 28)) := hf 2 _ rfl
    rw [cells_lets] at h0
    rw [cells_boxes] at h1
    rw [cells_shown] at h2
    obtain ⟨a0, n0, c0, ls, e0, _, _, i0⟩ := rd_lets h0
    obtain ⟨a1, n1, c1, bs, e1, _, _, i1⟩ := rd_boxes h1
    obtain ⟨a2, n2, c2, a3, n3, c3, a4, n4, c4, a5, n5, c5, a6, n6, c6, xa, xo, xp, p, e2, k0, k1, k2, k3, k4⟩ := rd_shown h2
    simp at e0 e1 e2
    obtain ⟨rfl, rfl, rfl, rfl, rfl⟩ := e2
    subst e0 e1
    exact ⟨a0, n0, c0, a1, n1, c1, a2, n2, c2, a3, n3, c3, a4, n4, c4, a5, n5, c5, a6, n6, c6, (ls, bs, xa, xo, xp, p), rfl, ⟨i0, i1, k0, k1, k2, k3, k4⟩⟩
end
end Go.Proofs.Ytdbhcdhenapfoaa
