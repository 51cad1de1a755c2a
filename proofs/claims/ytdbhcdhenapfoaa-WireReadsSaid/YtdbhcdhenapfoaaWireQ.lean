/- Layer 10: ReadPassed. -/
import Derived.Test.YtdbhcdhenapfoaaWireP
set_option linter.unusedVariables false
set_option linter.unusedSimpArgs false
namespace Go.Proofs.Ytdbhcdhenapfoaa
open Go.RowKit Go.Maps
set_option maxHeartbeats 800000 in
theorem readPassed_any (l : Bs) (hl : l.length ≤ 1000000000) (w : World) :
    Calls Try.prog 19 #[.string (ofL l)] w fun z w' =>
      Same w w' ∧ ((∃ x a n c, rd 3 passlC l = some x ∧ z = .returned (.tuple #[.slice a n c, .bool true]) ∧ OwnP w' w.heap.size (.slice a n c) x) ∨
        (rd 3 passlC l = none ∧ z = .returned (.tuple #[.slice none 0 0, .bool false]))) := by
  obtain ⟨b2, eb2⟩ : ∃ b2, w.heap.size = b2 := ⟨_, rfl⟩
  obtain ⟨w0, ew0⟩ : ∃ w0, w.alloc (.cells #[.slice none 0 0] 51) = w0 := ⟨_, rfl⟩
  have hS0 : Same w w0 := by rw [← ew0]; exact (Same.refl w).alloc _
  have HX0 := Lib.hid (show PxAt w0 b2 (.slice none 0 0) by rw [← ew0, ← eb2]; exact heap_new _ _)
  have HS0 := Lib.hid hS0
  have HSZ := Lib.hid (show w0.heap.size = b2 + 1 by rw [← ew0]; simp; omega)
  have EW0 := Lib.hid ew0
  have EB2 := Lib.hid eb2
  have hmf : ∀ (fn : Fn) (first cap : Array Value) (w : World), (Instr.makeFunc fn first cap).run Try.prog w = .ok (.func fn first cap) w := fun _ _ _ _ => rfl
  clear hS0 ew0 eb2
  go_enter Try.func19, Try.ntmps19
  go_upto_region 2 with fail
  rw [EW0.out, EB2.out]
  go_wp2_with fail
  refine (read_k _ b2 passlC _ _ (passed1 b2) l 3 3 rfl hl w0 (by rw [HSZ.out]; omega) HX0.out).mono ?_
  rintro e w1 ⟨hO1, (⟨x, lo, hr, rfl, hlo, hx⟩ | ⟨hr, rfl⟩)⟩
  · obtain ⟨a, n, c, hh, ho⟩ := hx.ex
    have g0 : w1.cell? ⟨b2, 0, none⟩ = some (.slice a n c) := by rw [cell_at hh]; rfl
    have HS2 := Lib.hid (show Same w w1 from Same.of_off (S := (· = b2)) ((Off.of_same HS0.out).trans hO1) (fun k hk e => by have := EB2.out; omega))
    have HO := Lib.hid (show OwnP w1 w.heap.size (.slice a n c) x from ho.down (by have := HSZ.out; have := EB2.out; omega))
    have HRD := Lib.hid hr
    clear hh ho hO1 hx hr
    go_wp2_with fail
    refine bodyPost_ret (by simp [results, Try.results19, go_sem]; try rfl) rfl ?_
    exact ⟨HS2.out, Or.inl ⟨x, a, n, c, HRD.out, rfl, HO.out⟩⟩
  · have HS2 := Lib.hid (show Same w w1 from Same.of_off (S := (· = b2)) ((Off.of_same HS0.out).trans hO1) (fun k hk e => by have := EB2.out; omega))
    clear hO1
    go_wp2_with fail
    refine bodyPost_ret (by simp [results, Try.results19, go_sem]; try rfl) rfl ?_
    exact ⟨HS2.out, Or.inr ⟨hr, rfl⟩⟩
end Go.Proofs.Ytdbhcdhenapfoaa
