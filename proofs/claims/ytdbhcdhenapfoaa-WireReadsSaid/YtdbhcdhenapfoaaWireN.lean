/- Layer 10: ReadMixing. -/
import Derived.Test.YtdbhcdhenapfoaaWireM
set_option linter.unusedVariables false
set_option linter.unusedSimpArgs false
namespace Go.Proofs.Ytdbhcdhenapfoaa
open Go.RowKit Go.Maps
set_option maxHeartbeats 800000 in
theorem readMixing_any (l : Bs) (hl : l.length ≤ 1000000000) (w : World) :
    Calls Try.prog 12 #[.string (ofL l)] w fun z w' =>
      Same w w' ∧ ((∃ x a0 n0 c0 a1 n1 c1 a2 n2 c2 a3 n3 c3 a4 n4 c4 a5 n5 c5 a6 n6 c6, rd 2 mixC l = some x ∧ z = .returned (.tuple #[.agg #[.slice a0 n0 c0, .slice a1 n1 c1, .slice a2 n2 c2, .slice a3 n3 c3, .slice a4 n4 c4, .slice a5 n5 c5, .slice a6 n6 c6], .bool true]) ∧ MixO w' w.heap.size (.slice a0 n0 c0) (.slice a1 n1 c1) (.slice a2 n2 c2) (.slice a3 n3 c3) (.slice a4 n4 c4) (.slice a5 n5 c5) (.slice a6 n6 c6) x.1 x.2.1 x.2.2.1 x.2.2.2.1 x.2.2.2.2.1 x.2.2.2.2.2.1 x.2.2.2.2.2.2) ∨
        (rd 2 mixC l = none ∧ z = .returned (.tuple #[.agg #[.slice none 0 0, .slice none 0 0, .slice none 0 0, .slice none 0 0, .slice none 0 0, .slice none 0 0, .slice none 0 0], .bool false]))) := by
  obtain ⟨b2, eb2⟩ : ∃ b2, w.heap.size = b2 := ⟨_, rfl⟩
  obtain ⟨w0, ew0⟩ : ∃ w0, (w.alloc (.cells #[.slice none 0 0, .slice none 0 0, .slice none 0 0, .slice none 0 0, .slice none 0 0, .slice none 0 0, .slice none 0 0] 30)).alloc (.cells #[.slice none 0 0, .slice none 0 0, .slice none 0 0, .slice none 0 0, .slice none 0 0, .slice none 0 0, .slice none 0 0] 30) = w0 := ⟨_, rfl⟩
  have hsz : (w.alloc (.cells #[.slice none 0 0, .slice none 0 0, .slice none 0 0, .slice none 0 0, .slice none 0 0, .slice none 0 0, .slice none 0 0] 30)).heap.size = b2 + 1 := by rw [← eb2]; simp
  have hS0 : Same w w0 := by rw [← ew0]; exact ((Same.refl w).alloc _).alloc _
  have HB2 := Lib.hid (show w0.heap[b2]? = some (.cells #[.slice none 0 0, .slice none 0 0, .slice none 0 0, .slice none 0 0, .slice none 0 0, .slice none 0 0, .slice none 0 0] 30 (0, 0)) by rw [← ew0, ← eb2]; exact ((Same.refl _).alloc _).keep (heap_new _ _))
  have HX0 := Lib.hid (show ZMix (b2 + 1) w0 by rw [← ew0, ← hsz]; exact heap_new _ _)
  have HS0 := Lib.hid hS0
  have HSZ := Lib.hid (show w0.heap.size = b2 + 2 by rw [← ew0]; simp; omega)
  have EW0 := Lib.hid ew0
  have EB2 := Lib.hid eb2
  have hmf : ∀ (fn : Fn) (first cap : Array Value) (w : World), (Instr.makeFunc fn first cap).run Try.prog w = .ok (.func fn first cap) w := fun _ _ _ _ => rfl
  clear hsz hS0 ew0 eb2
  go_enter Try.func12, Try.ntmps12
  go_upto_region 2 with fail
  rw [EW0.out, EB2.out]
  go_wp2_with fail
  refine (read_k _ (b2 + 1) mixC _ _ (mixing1 (b2 + 1)) l 2 2 rfl hl w0 (by rw [HSZ.out]; omega) HX0.out).mono ?_
  rintro e w1 ⟨hO1, (⟨x, lo, hr, rfl, hlo, hx⟩ | ⟨hr, rfl⟩)⟩
  · obtain ⟨a0, n0, c0, a1, n1, c1, a2, n2, c2, a3, n3, c3, a4, n4, c4, a5, n5, c5, a6, n6, c6, hh, ho⟩ := hx.ex
    have hb2 := hO1.keep (b := b2) (by omega) HB2.out
    have g0 : w1.cell? ⟨(b2 + 1), 0, none⟩ = some (.slice a0 n0 c0) := by rw [cell_at hh]; rfl
    have g1 : w1.cell? ⟨(b2 + 1), 1, none⟩ = some (.slice a1 n1 c1) := by rw [cell_at hh]; rfl
    have g2 : w1.cell? ⟨(b2 + 1), 2, none⟩ = some (.slice a2 n2 c2) := by rw [cell_at hh]; rfl
    have g3 : w1.cell? ⟨(b2 + 1), 3, none⟩ = some (.slice a3 n3 c3) := by rw [cell_at hh]; rfl
    have g4 : w1.cell? ⟨(b2 + 1), 4, none⟩ = some (.slice a4 n4 c4) := by rw [cell_at hh]; rfl
    have g5 : w1.cell? ⟨(b2 + 1), 5, none⟩ = some (.slice a5 n5 c5) := by rw [cell_at hh]; rfl
    have g6 : w1.cell? ⟨(b2 + 1), 6, none⟩ = some (.slice a6 n6 c6) := by rw [cell_at hh]; rfl
    have q0 : w1.cell? ⟨b2, 0, none⟩ = some (.slice none 0 0) := by rw [cell_at hb2]; rfl
    have f0 : w1.frozen? ⟨b2, 0, none⟩ = false := free_at hb2
    have q1 : w1.cell? ⟨b2, 1, none⟩ = some (.slice none 0 0) := by rw [cell_at hb2]; rfl
    have f1 : w1.frozen? ⟨b2, 1, none⟩ = false := free_at hb2
    have q2 : w1.cell? ⟨b2, 2, none⟩ = some (.slice none 0 0) := by rw [cell_at hb2]; rfl
    have f2 : w1.frozen? ⟨b2, 2, none⟩ = false := free_at hb2
    have q3 : w1.cell? ⟨b2, 3, none⟩ = some (.slice none 0 0) := by rw [cell_at hb2]; rfl
    have f3 : w1.frozen? ⟨b2, 3, none⟩ = false := free_at hb2
    have q4 : w1.cell? ⟨b2, 4, none⟩ = some (.slice none 0 0) := by rw [cell_at hb2]; rfl
    have f4 : w1.frozen? ⟨b2, 4, none⟩ = false := free_at hb2
    have q5 : w1.cell? ⟨b2, 5, none⟩ = some (.slice none 0 0) := by rw [cell_at hb2]; rfl
    have f5 : w1.frozen? ⟨b2, 5, none⟩ = false := free_at hb2
    have q6 : w1.cell? ⟨b2, 6, none⟩ = some (.slice none 0 0) := by rw [cell_at hb2]; rfl
    have f6 : w1.frozen? ⟨b2, 6, none⟩ = false := free_at hb2
    obtain ⟨w2, ew2⟩ : ∃ w2, w1.setCells b2 0 [.slice a0 n0 c0, .slice a1 n1 c1, .slice a2 n2 c2, .slice a3 n3 c3, .slice a4 n4 c4, .slice a5 n5 c5, .slice a6 n6 c6] = w2 := ⟨_, rfl⟩
    have hp2 : w2.heap[b2]? = some (.cells #[.slice a0 n0 c0, .slice a1 n1 c1, .slice a2 n2 c2, .slice a3 n3 c3, .slice a4 n4 c4, .slice a5 n5 c5, .slice a6 n6 c6] 30 (0, 0)) := by
      have hq := heap_sets [.slice a0 n0 c0, .slice a1 n1 c1, .slice a2 n2 c2, .slice a3 n3 c3, .slice a4 n4 c4, .slice a5 n5 c5, .slice a6 n6 c6] 0 w1 _ hb2
      rw [ew2] at hq
      exact hq
    have p0 : w2.cell? ⟨b2, 0, none⟩ = some (.slice a0 n0 c0) := by rw [cell_at hp2]; rfl
    have p1 : w2.cell? ⟨b2, 1, none⟩ = some (.slice a1 n1 c1) := by rw [cell_at hp2]; rfl
    have p2 : w2.cell? ⟨b2, 2, none⟩ = some (.slice a2 n2 c2) := by rw [cell_at hp2]; rfl
    have p3 : w2.cell? ⟨b2, 3, none⟩ = some (.slice a3 n3 c3) := by rw [cell_at hp2]; rfl
    have p4 : w2.cell? ⟨b2, 4, none⟩ = some (.slice a4 n4 c4) := by rw [cell_at hp2]; rfl
    have p5 : w2.cell? ⟨b2, 5, none⟩ = some (.slice a5 n5 c5) := by rw [cell_at hp2]; rfl
    have p6 : w2.cell? ⟨b2, 6, none⟩ = some (.slice a6 n6 c6) := by rw [cell_at hp2]; rfl
    have HS2 := Lib.hid (show Same w w2 by
      rw [← ew2]
      refine Same.of_off (S := fun k => k = b2 ∨ k = b2 + 1) (((Off.of_same HS0.out).trans (hO1.mono (fun k _ e => Or.inr e))).trans (Off.sets (S := fun k => k = b2 ∨ k = b2 + 1) (Or.inl rfl) _ _ _)) (fun k hk e => by have := EB2.out; omega))
    have HO := Lib.hid (show MixO w2 w.heap.size (.slice a0 n0 c0) (.slice a1 n1 c1) (.slice a2 n2 c2) (.slice a3 n3 c3) (.slice a4 n4 c4) (.slice a5 n5 c5) (.slice a6 n6 c6) x.1 x.2.1 x.2.2.1 x.2.2.2.1 x.2.2.2.2.1 x.2.2.2.2.2.1 x.2.2.2.2.2.2 by
      rw [← ew2]
      exact (ho.off2 (S := (· = b2)) (Off.sets (S := (· = b2)) rfl _ _ _) (fun b hb _ e => by have := HSZ.out; omega)).down (by have := HSZ.out; have := EB2.out; omega))
    have HRD := Lib.hid hr
    have EW2 := Lib.hid (show (((((((w1.setCell ⟨b2, 0, none⟩ (.slice a0 n0 c0)).setCell ⟨b2, 1, none⟩ (.slice a1 n1 c1)).setCell ⟨b2, 2, none⟩ (.slice a2 n2 c2)).setCell ⟨b2, 3, none⟩ (.slice a3 n3 c3)).setCell ⟨b2, 4, none⟩ (.slice a4 n4 c4)).setCell ⟨b2, 5, none⟩ (.slice a5 n5 c5)).setCell ⟨b2, 6, none⟩ (.slice a6 n6 c6)) = w2 from ew2)
    clear hb2 hh ho ew2 hp2 hO1 hx hr
    go_wp2_with fail
    try rw [EW2.out]
    refine bodyPost_ret (by simp [results, Try.results12, go_sem, p0, p1, p2, p3, p4, p5, p6]; try rfl) rfl ?_
    exact ⟨HS2.out, Or.inl ⟨x, a0, n0, c0, a1, n1, c1, a2, n2, c2, a3, n3, c3, a4, n4, c4, a5, n5, c5, a6, n6, c6, HRD.out, rfl, HO.out⟩⟩
  · have hb2 := hO1.keep (b := b2) (by omega) HB2.out
    have q0 : w1.cell? ⟨b2, 0, none⟩ = some (.slice none 0 0) := by rw [cell_at hb2]; rfl
    have f0 : w1.frozen? ⟨b2, 0, none⟩ = false := free_at hb2
    have q1 : w1.cell? ⟨b2, 1, none⟩ = some (.slice none 0 0) := by rw [cell_at hb2]; rfl
    have f1 : w1.frozen? ⟨b2, 1, none⟩ = false := free_at hb2
    have q2 : w1.cell? ⟨b2, 2, none⟩ = some (.slice none 0 0) := by rw [cell_at hb2]; rfl
    have f2 : w1.frozen? ⟨b2, 2, none⟩ = false := free_at hb2
    have q3 : w1.cell? ⟨b2, 3, none⟩ = some (.slice none 0 0) := by rw [cell_at hb2]; rfl
    have f3 : w1.frozen? ⟨b2, 3, none⟩ = false := free_at hb2
    have q4 : w1.cell? ⟨b2, 4, none⟩ = some (.slice none 0 0) := by rw [cell_at hb2]; rfl
    have f4 : w1.frozen? ⟨b2, 4, none⟩ = false := free_at hb2
    have q5 : w1.cell? ⟨b2, 5, none⟩ = some (.slice none 0 0) := by rw [cell_at hb2]; rfl
    have f5 : w1.frozen? ⟨b2, 5, none⟩ = false := free_at hb2
    have q6 : w1.cell? ⟨b2, 6, none⟩ = some (.slice none 0 0) := by rw [cell_at hb2]; rfl
    have f6 : w1.frozen? ⟨b2, 6, none⟩ = false := free_at hb2
    obtain ⟨w2, ew2⟩ : ∃ w2, w1.setCells b2 0 [.slice none 0 0, .slice none 0 0, .slice none 0 0, .slice none 0 0, .slice none 0 0, .slice none 0 0, .slice none 0 0] = w2 := ⟨_, rfl⟩
    have hp2 : w2.heap[b2]? = some (.cells #[.slice none 0 0, .slice none 0 0, .slice none 0 0, .slice none 0 0, .slice none 0 0, .slice none 0 0, .slice none 0 0] 30 (0, 0)) := by
      have hq := heap_sets [.slice none 0 0, .slice none 0 0, .slice none 0 0, .slice none 0 0, .slice none 0 0, .slice none 0 0, .slice none 0 0] 0 w1 _ hb2
      rw [ew2] at hq
      exact hq
    have p0 : w2.cell? ⟨b2, 0, none⟩ = some (.slice none 0 0) := by rw [cell_at hp2]; rfl
    have p1 : w2.cell? ⟨b2, 1, none⟩ = some (.slice none 0 0) := by rw [cell_at hp2]; rfl
    have p2 : w2.cell? ⟨b2, 2, none⟩ = some (.slice none 0 0) := by rw [cell_at hp2]; rfl
    have p3 : w2.cell? ⟨b2, 3, none⟩ = some (.slice none 0 0) := by rw [cell_at hp2]; rfl
    have p4 : w2.cell? ⟨b2, 4, none⟩ = some (.slice none 0 0) := by rw [cell_at hp2]; rfl
    have p5 : w2.cell? ⟨b2, 5, none⟩ = some (.slice none 0 0) := by rw [cell_at hp2]; rfl
    have p6 : w2.cell? ⟨b2, 6, none⟩ = some (.slice none 0 0) := by rw [cell_at hp2]; rfl
    have HS2 := Lib.hid (show Same w w2 by
      rw [← ew2]
      refine Same.of_off (S := fun k => k = b2 ∨ k = b2 + 1) (((Off.of_same HS0.out).trans (hO1.mono (fun k _ e => Or.inr e))).trans (Off.sets (S := fun k => k = b2 ∨ k = b2 + 1) (Or.inl rfl) _ _ _)) (fun k hk e => by have := EB2.out; omega))
    have EW2 := Lib.hid (show (((((((w1.setCell ⟨b2, 0, none⟩ (.slice none 0 0)).setCell ⟨b2, 1, none⟩ (.slice none 0 0)).setCell ⟨b2, 2, none⟩ (.slice none 0 0)).setCell ⟨b2, 3, none⟩ (.slice none 0 0)).setCell ⟨b2, 4, none⟩ (.slice none 0 0)).setCell ⟨b2, 5, none⟩ (.slice none 0 0)).setCell ⟨b2, 6, none⟩ (.slice none 0 0)) = w2 from ew2)
    clear hb2 ew2 hp2 hO1
    go_wp2_with fail
    try rw [EW2.out]
    refine bodyPost_ret (by simp [results, Try.results12, go_sem, p0, p1, p2, p3, p4, p5, p6]; try rfl) rfl ?_
    exact ⟨HS2.out, Or.inr ⟨hr, rfl⟩⟩
end Go.Proofs.Ytdbhcdhenapfoaa
