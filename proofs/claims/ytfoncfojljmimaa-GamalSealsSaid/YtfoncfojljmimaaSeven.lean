/- The certificate of 7 that the law's awake makes: it holds, proves 7, and not 5. -/
import Derived.Test.YtfoncfojljmimaaPrimeN
set_option linter.unusedVariables false
set_option linter.unusedSimpArgs false
namespace Go.Proofs.Ytfoncfojljmimaa
open Go.RowKit NT
def rs7 : List RowD := [⟨3, 2, [2]⟩, ⟨7, 3, [2, 3]⟩]
theorem strip_2_2 : strip 2 2 = 1 := by rw [strip_step (by omega) (by omega) rfl, strip_end (by decide)]
theorem strip_2_6 : strip 2 6 = 3 := by rw [strip_step (by omega) (by omega) rfl, strip_end (by decide)]
theorem strip_3_3 : strip 3 3 = 1 := by rw [strip_step (by omega) (by omega) rfl, strip_end (by decide)]
theorem powI_num {a e n : Nat} (v : Nat) (h2 : 2 ≤ n) (h1 : n ≤ 4611686018427387904) (h : a ^ e % n = v) : powI (a : Int) (e : Int) (n : Int) = v := by
  rw [powI_eq (by omega) (by omega)]
  simp only [Int.toNat_natCast]
  rw [h]
theorem ok7 : AllOk rs7 := by
  refine ⟨by decide, fun j hj => ?_⟩
  have hj' : j < 2 := hj
  match j, hj' with
  | 0, _ =>
    refine ⟨by decide, by decide, by decide, by decide, powI_num (a := 2) (e := 2) (n := 3) 1 (by omega) (by omega) rfl, ?_⟩
    refine ⟨by decide, .inl rfl, by decide, ?_, ?_⟩
    · have := powI_num (a := 2) (e := 1) (n := 3) 2 (by omega) (by omega) rfl
      intro h
      have h' : powI ((2 : Nat) : Int) ((1 : Nat) : Int) ((3 : Nat) : Int) = 1 := h
      rw [this] at h'; cases h'
    · show ((strip 2 2 : Nat) : Int) = 1
      rw [strip_2_2]; rfl
  | 1, _ =>
    refine ⟨by decide, by decide, by decide, by decide, powI_num (a := 3) (e := 6) (n := 7) 1 (by omega) (by omega) rfl, ?_⟩
    refine ⟨by decide, .inl rfl, by decide, ?_, ?_⟩
    · have := powI_num (a := 3) (e := 3) (n := 7) 6 (by omega) (by omega) rfl
      intro h
      have h' : powI ((3 : Nat) : Int) ((3 : Nat) : Int) ((7 : Nat) : Int) = 1 := h
      rw [this] at h'; cases h'
    · show FacOk (Kn rs7 1) ⟨7, 3, [2, 3]⟩ ((strip 2 6 : Nat) : Int) 2 [3]
      rw [strip_2_6]
      refine ⟨by decide, .inr ⟨0, by omega, rfl⟩, by decide, ?_, ?_⟩
      · have := powI_num (a := 3) (e := 2) (n := 7) 2 (by omega) (by omega) rfl
        intro h
        have h' : powI ((3 : Nat) : Int) ((2 : Nat) : Int) ((7 : Nat) : Int) = 1 := h
        rw [this] at h'; cases h'
      · show ((strip 3 3 : Nat) : Int) = 1
        rw [strip_3_3]; rfl
theorem proved7 : ProvedP 7 rs7 := ⟨ok7, .inr ⟨1, by decide, rfl⟩⟩
theorem proved5 : ¬ ProvedP 5 rs7 := by
  rintro ⟨_, h⟩
  rcases h with h | ⟨i, hi, e⟩
  · cases h
  · have hi' : i < 2 := hi
    match i, hi' with
    | 0, _ => cases e
    | 1, _ => cases e
theorem ints_lit {w : World} {b : Nat} {xs : List Int} (hb : ∀ j, j < xs.length → w.cell? ⟨b, j, none⟩ = some (.int .u64 (xs.getD j 0))) (hu : ∀ j, U64 (xs.getD j 0)) (hs : xs.length ≤ 16) : IntsAt w (some ⟨b, 0, none⟩) xs.length xs :=
  ⟨rfl, by omega, fun _ => ⟨b, 0, rfl, fun j hj => by rw [Nat.zero_add]; exact hb j hj⟩, hu⟩
theorem lit7 (w : World) (t : TypeId) (u : TypeId) : RowsAt (((w.alloc (.cells #[.int .u64 2] t)).alloc (.cells #[.int .u64 2, .int .u64 3] t)).alloc
    (.cells #[.int .u64 3, .int .u64 2, .slice (some ⟨w.heap.size, 0, none⟩) 1 1, .int .u64 7, .int .u64 3, .slice (some ⟨w.heap.size + 1, 0, none⟩) 2 2] u)) (some ⟨w.heap.size + 1 + 1, 0, none⟩) 2 rs7 := by
  obtain ⟨w1, h1⟩ : ∃ w1, w1 = w.alloc (.cells #[.int .u64 2] t) := ⟨_, rfl⟩
  have s1 : w.heap.size + 1 = w1.heap.size := by rw [h1]; simp
  have i1 : IntsAt w1 (some ⟨w.heap.size, 0, none⟩) 1 [2] := ints_lit (xs := [2]) (fun j hj => by
      have hj' : j < 1 := hj
      match j, hj' with
      | 0, _ => rw [h1]; simp [World.cell?_alloc_new]) (fun j => by
      match j with
      | 0 => exact ⟨by decide, by decide⟩
      | _ + 1 => exact ⟨by simp, by simp⟩) (by decide)
  rw [← h1, s1]
  obtain ⟨w2, h2⟩ : ∃ w2, w2 = w1.alloc (.cells #[.int .u64 2, .int .u64 3] t) := ⟨_, rfl⟩
  have s2 : w1.heap.size + 1 = w2.heap.size := by rw [h2]; simp
  have S12 : Same w1 w2 := by rw [h2]; exact (Same.refl w1).alloc _
  have i2 : IntsAt w2 (some ⟨w1.heap.size, 0, none⟩) 2 [2, 3] := ints_lit (xs := [2, 3]) (fun j hj => by
      have hj' : j < 2 := hj
      match j, hj' with
      | 0, _ => rw [h2]; simp [World.cell?_alloc_new]
      | 1, _ => rw [h2]; simp [World.cell?_alloc_new]) (fun j => by
      match j with
      | 0 => exact ⟨by decide, by decide⟩
      | 1 => exact ⟨by decide, by decide⟩
      | _ + 2 => exact ⟨by simp, by simp⟩) (by decide)
  rw [← h2, s2]
  obtain ⟨O, hO⟩ : ∃ O, O = Obj.cells #[.int .u64 3, .int .u64 2, .slice (some ⟨w.heap.size, 0, none⟩) 1 1, .int .u64 7, .int .u64 3, .slice (some ⟨w1.heap.size, 0, none⟩) 2 2] u := ⟨_, rfl⟩
  rw [← hO]
  have S2 : Same w2 (w2.alloc O) := (Same.refl w2).alloc _
  refine ⟨rfl, by decide, fun _ => ⟨w2.heap.size, 0, rfl, fun j hj => ?_⟩⟩
  match j, hj with
  | 0, _ =>
    exact ⟨by rw [hO]; simp [World.cell?_alloc_new, rs7], by rw [hO]; simp [World.cell?_alloc_new, rs7], ⟨some ⟨w.heap.size, 0, none⟩, 1, 1, by rw [hO]; simp [World.cell?_alloc_new], (i1.same S12).same S2⟩, ⟨by decide, by decide⟩, ⟨by decide, by decide⟩⟩
  | 1, _ =>
    exact ⟨by rw [hO]; simp [World.cell?_alloc_new, rs7], by rw [hO]; simp [World.cell?_alloc_new, rs7], ⟨some ⟨w1.heap.size, 0, none⟩, 2, 2, by rw [hO]; simp [World.cell?_alloc_new], i2.same S2⟩, ⟨by decide, by decide⟩, ⟨by decide, by decide⟩⟩
end Go.Proofs.Ytfoncfojljmimaa
