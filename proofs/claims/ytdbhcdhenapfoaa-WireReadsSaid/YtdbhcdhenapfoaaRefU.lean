/- Layer 10: the document's boxes and letters as bytes. -/
import Derived.Test.YtdbhcdhenapfoaaRefT
import Derived.Deep.RegionHeld3
set_option linter.unusedVariables false
set_option linter.unusedSimpArgs false
namespace Go.Proofs.Ytdbhcdhenapfoaa
open Go.RowKit Go.Maps
theorem ints_at {w : World} {b : Nat} {xs : List Int} (hb : w.heap[b]? = some (.cells (vals xs).toArray 33 (0, 0))) (hu : ∀ x ∈ xs, U64 x) (hs : xs.length ≤ 100) : IntsAt w (some ⟨b, 0, none⟩) xs.length xs :=
  Wrote.ints (lo := 0) (wb := b + 1) hb (by omega) hu hs w (Wrote.refl _ _ _)
theorem rshort_any (a1 : Option Addr) (n1 c1 : Nat) (a2 : Option Addr) (n2 c2 : Nat) (w : World) :
    Calls Try.prog 32 #[.agg #[.slice a1 n1 c1, .slice a2 n2 c2]] w fun z w' => z = .returned (.bool (decide (n1 ≤ 64) && decide (n2 ≤ 64))) ∧ Same w w' := by
  by_cases h1 : n1 ≤ 64
  · have d1 : decide ((n1 : Int) ≤ 64) = true := decide_eq_true (by omega)
    by_cases h2 : n2 ≤ 64
    · have d2 : decide ((n2 : Int) ≤ 64) = true := decide_eq_true (by omega)
      have HE := Lib.hid (show (decide (n1 ≤ 64) && decide (n2 ≤ 64)) = true by simp [h1, h2])
      rw [HE.out]
      go_enter Try.func32, Try.ntmps32
      go_wp2_with fail
      go_ret
      exact ⟨rfl, (Same.refl w).alloc _⟩
    · have d2 : decide ((n2 : Int) ≤ 64) = false := decide_eq_false (by omega)
      have HE := Lib.hid (show (decide (n1 ≤ 64) && decide (n2 ≤ 64)) = false by simp [h2])
      rw [HE.out]
      go_enter Try.func32, Try.ntmps32
      go_wp2_with fail
      go_ret
      exact ⟨rfl, (Same.refl w).alloc _⟩
  · have d1 : decide ((n1 : Int) ≤ 64) = false := decide_eq_false (by omega)
    have HE := Lib.hid (show (decide (n1 ≤ 64) && decide (n2 ≤ 64)) = false by simp [h1])
    rw [HE.out]
    go_enter Try.func32, Try.ntmps32
    go_wp2_with fail
    go_ret
    exact ⟨rfl, (Same.refl w).alloc _⟩
abbrev BxAt (w : World) (bb : Nat) (x0 x1 x2 x3 x4 x5 : Int) : Prop := w.heap[bb]? = some (.cells #[.int .u64 x0, .int .u64 x1, .int .u64 x2, .int .u64 x3, .int .u64 x4, .int .u64 x5] 37 (0, 0))
set_option maxRecDepth 20000 in
set_option maxHeartbeats 1600000 in
theorem rboxs_any (x0 x1 x2 x3 x4 x5 : Int) (hu : ∀ x ∈ [x0, x1, x2, x3, x4, x5], U64 x) (w : World) :
    Calls Try.prog 34 #[.agg #[.int .u64 x0, .int .u64 x1, .int .u64 x2, .int .u64 x3, .int .u64 x4, .int .u64 x5]] w fun z w' => z = .returned (.string (ofL ([x0, x1, x2, x3, x4, x5].flatMap encN))) ∧ Same w w' := by
  have HU := Lib.hid hu
  obtain ⟨w0, ew0⟩ : ∃ w0, w.alloc (.cells #[.int .u64 x0, .int .u64 x1, .int .u64 x2, .int .u64 x3, .int .u64 x4, .int .u64 x5] 37) = w0 := ⟨_, rfl⟩
  obtain ⟨bb, ebb⟩ : ∃ bb, w.heap.size = bb := ⟨_, rfl⟩
  have HS0 := Lib.hid (show Same w w0 by rw [← ew0]; exact (Same.refl w).alloc _)
  have HB := Lib.hid (show BxAt w0 bb x0 x1 x2 x3 x4 x5 by rw [← ew0, ← ebb]; exact heap_new _ _)
  have EW0 := Lib.hid ew0
  have EBB := Lib.hid ebb
  clear ew0 ebb hu
  go_enter Try.func34, Try.ntmps34
  go_upto_region 1 with fail
  rw [EW0.out, EBB.out]
  go_wp2_with fail
  go_loopw [3, 4] (fun s3 s4 wr => ∃ i : Nat, s4 = .int .i64 i ∧ i ≤ 3 ∧ s3 = .string (ofL (([x0, x1, x2, x3, x4, x5].take (2 * i)).flatMap encN)) ∧ Hid (Same w0 wr)) (fun _ s4 _ => 3 - (intOf s4).toNat)
  case atStart => exact ⟨0, rfl, by omega, rfl, Lib.hid (Same.refl _)⟩
  case round =>
    obtain ⟨i, rfl, hi', rfl, hS⟩ := hrel
    have hcase : i = 0 ∨ i = 1 ∨ i = 2 ∨ i = 3 := by omega
    clear hi'
    rcases hcase with rfl | rfl | rfl | rfl
    · rw [show ((0 : Nat) : Int) = 0 from rfl]
      obtain ⟨wd, ewd⟩ : ∃ wd, wr.drew = wd := ⟨_, rfl⟩
      have hsd : Same wr wd := by rw [← ewd]; exact drew_same _
      have HSD := Lib.hid (hS.out.trans hsd)
      have hbd := HSD.out.keep HB.out
      have HC := Lib.hid (show wd.cell? ⟨bb, 0, none⟩ = some (.int .u64 x0) ∧ wd.cell? ⟨bb, 1, none⟩ = some (.int .u64 x1) ∧ Same wd wd from ⟨by rw [cell_at hbd]; rfl, by rw [cell_at hbd]; rfl, Same.refl _⟩)
      have EWD := Lib.hid ewd
      have HA := Lib.hid (show ofL (([x0, x1, x2, x3, x4, x5].take (2 * 0)).flatMap encN) ++ ofL ([x0, x1].flatMap encN) = ofL (([x0, x1, x2, x3, x4, x5].take (2 * (0 + 1))).flatMap encN) by rw [append_ofL, ← List.flatMap_append]; rfl)
      have hcat := cat_of (a := ([x0, x1, x2, x3, x4, x5].take (2 * 0)).flatMap encN) (b := [x0, x1].flatMap encN) (by rw [flat_len]; simp) (by rw [flat_len]; simp)
      obtain ⟨A, eA⟩ : ∃ A, ofL (([x0, x1, x2, x3, x4, x5].take (2 * 0)).flatMap encN) = A := ⟨_, rfl⟩
      obtain ⟨B, eB⟩ : ∃ B, ofL ([x0, x1].flatMap encN) = B := ⟨_, rfl⟩
      rw [eA, eB] at HA hcat
      rw [eA]
      have EB2 := Lib.hid eB
      clear ewd hsd hbd hS eA eB
      go_upto_region 5 with fail
      refine wp_region_held_drew (S := fun w' => w'.cell? ⟨bb, 0, none⟩ = some (.int .u64 x0) ∧ w'.cell? ⟨bb, 1, none⟩ = some (.int .u64 x1) ∧ Same wd w') (by kernel_rfl) (by rw [EWD.out]; exact HC.out) (fun hHeld => ?_)
      rw [EWD.out] at hHeld ⊢
      refine wpAnyH_take (i := 0) (v := ?_) rfl (by kernel_rfl) (by kernel_rfl) (by kernel_rfl) (fun _ _ _ h => h) (Or.inl ⟨by rfl, ?_⟩) (by assumption) ?_
      rotate_left
      · intro w hSw; obtain ⟨q0, q1, q2⟩ := hSw; go_simp; try with_reducible rfl
      try simp only [Act.put, List.getElem_toArray, List.getElem_cons_succ, List.getElem_cons_zero, List.setIfInBounds_toArray, List.set_cons_zero, List.set_cons_succ]
      refine wpAnyH_take (i := 1) (v := ?_) rfl (by kernel_rfl) (by kernel_rfl) (by kernel_rfl) (fun _ _ _ h => h) (Or.inl ⟨by rfl, ?_⟩) (by assumption) ?_
      rotate_left
      · intro w hSw; obtain ⟨q0, q1, q2⟩ := hSw; go_simp; try with_reducible rfl
      try simp only [Act.put, List.getElem_toArray, List.getElem_cons_succ, List.getElem_cons_zero, List.setIfInBounds_toArray, List.set_cons_zero, List.set_cons_succ]
      refine wpAnyH_take (i := 2) (v := ?_) rfl (by kernel_rfl) (by kernel_rfl) (by kernel_rfl) (fun _ _ _ h => h) (Or.inl ⟨by rfl, ?_⟩) (by assumption) ?_
      rotate_left
      · intro w hSw; obtain ⟨q0, q1, q2⟩ := hSw; go_simp; try with_reducible rfl
      try simp only [Act.put, List.getElem_toArray, List.getElem_cons_succ, List.getElem_cons_zero, List.setIfInBounds_toArray, List.set_cons_zero, List.set_cons_succ]
      refine wpAnyH_take (i := 3) (v := ?_) rfl (by kernel_rfl) (by kernel_rfl) (by kernel_rfl) (fun _ _ _ h => h) (Or.inl ⟨by rfl, ?_⟩) (by assumption) ?_
      rotate_left
      · intro w hSw; obtain ⟨q0, q1, q2⟩ := hSw; go_simp; try with_reducible rfl
      try simp only [Act.put, List.getElem_toArray, List.getElem_cons_succ, List.getElem_cons_zero, List.setIfInBounds_toArray, List.set_cons_zero, List.set_cons_succ]
      refine wpAnyH_take (i := 4) (v := ?_) rfl (by kernel_rfl) (by kernel_rfl) (by kernel_rfl) (fun _ _ _ h => h) (Or.inl ⟨by rfl, ?_⟩) (by assumption) ?_
      rotate_left
      · intro w hSw; obtain ⟨q0, q1, q2⟩ := hSw; go_simp; try with_reducible rfl
      try simp only [Act.put, List.getElem_toArray, List.getElem_cons_succ, List.getElem_cons_zero, List.setIfInBounds_toArray, List.set_cons_zero, List.set_cons_succ]
      refine wpAnyH_take (i := 5) (v := ?_) rfl (by kernel_rfl) (by kernel_rfl) (by kernel_rfl) (fun _ _ _ h => h) (Or.inl ⟨by rfl, ?_⟩) (by assumption) ?_
      rotate_left
      · intro w hSw; obtain ⟨q0, q1, q2⟩ := hSw; go_simp; try with_reducible rfl
      try simp only [Act.put, List.getElem_toArray, List.getElem_cons_succ, List.getElem_cons_zero, List.setIfInBounds_toArray, List.set_cons_zero, List.set_cons_succ]
      refine wpAnyH_take (i := 6) (v := ?_) rfl (by kernel_rfl) (by kernel_rfl) (by kernel_rfl) (fun _ _ _ h => h) (Or.inl ⟨by rfl, ?_⟩) (by assumption) ?_
      rotate_left
      · intro w hSw; obtain ⟨q0, q1, q2⟩ := hSw; go_simp; try with_reducible rfl
      try simp only [Act.put, List.getElem_toArray, List.getElem_cons_succ, List.getElem_cons_zero, List.setIfInBounds_toArray, List.set_cons_zero, List.set_cons_succ]
      refine wpAnyH_take (i := 7) (v := ?_) rfl (by kernel_rfl) (by kernel_rfl) (by kernel_rfl) (fun _ _ _ h => h) (Or.inl ⟨by rfl, ?_⟩) (by assumption) ?_
      rotate_left
      · intro w hSw; obtain ⟨q0, q1, q2⟩ := hSw; go_simp; try with_reducible rfl
      try simp only [Act.put, List.getElem_toArray, List.getElem_cons_succ, List.getElem_cons_zero, List.setIfInBounds_toArray, List.set_cons_zero, List.set_cons_succ]
      refine wpAnyH_take (i := 8) (v := ?_) rfl (by kernel_rfl) (by kernel_rfl) (by kernel_rfl) (fun _ _ _ h => h) (Or.inl ⟨by rfl, ?_⟩) (by assumption) ?_
      rotate_left
      · intro w hSw; obtain ⟨q0, q1, q2⟩ := hSw; go_simp; try with_reducible rfl
      try simp only [Act.put, List.getElem_toArray, List.getElem_cons_succ, List.getElem_cons_zero, List.setIfInBounds_toArray, List.set_cons_zero, List.set_cons_succ]
      refine wpAnyH_ready (rs := [9]) (by kernel_rfl) (by simp) ?_
      refine AllReadyH.cons rfl (fun K hK => ?_) AllReadyH.nil
      go_simp
      refine hK.out _ _ ?_ (fun hHeld => ?_)
      · exact ⟨same_cell ((Same.refl wd).alloc _) hHeld.1, same_cell ((Same.refl wd).alloc _) hHeld.2.1, (Same.refl wd).alloc _⟩
      clear hK K
      try simp only [Act.put, List.getElem_toArray, List.getElem_cons_succ, List.getElem_cons_zero, List.setIfInBounds_toArray, List.set_cons_zero, List.set_cons_succ]
      refine wpAnyH_ready (rs := [10]) (by kernel_rfl) (by simp) ?_
      refine AllReadyH.cons rfl (fun K hK => ?_) AllReadyH.nil
      go_simp
      refine (rnums_any (some ⟨wd.heap.size, 0, none⟩) 2 2 [x0, x1] (by omega) _ (ints_at (xs := [x0, x1]) (heap_new wd _) (by intro x hx; simp at hx; rcases hx with rfl | rfl; exact HU.out _ (by simp); exact HU.out _ (by simp)) (by simp))).mono ?_
      rintro e w2 ⟨rfl, hs⟩
      rw [EB2.out]
      have hH2 := And.intro (same_cell hs hHeld.1) (And.intro (same_cell hs hHeld.2.1) (hHeld.2.2.trans hs))
      clear hs hHeld
      go_wp2_with fail
      refine hK.out _ _ ?_ (fun hHeld => ?_)
      · exact hH2
      clear hK K
      try simp only [Act.put, List.getElem_toArray, List.getElem_cons_succ, List.getElem_cons_zero, List.setIfInBounds_toArray, List.set_cons_zero, List.set_cons_succ]
      clear hH2
      refine wpAnyH_take (i := 11) (v := ?_) rfl (by kernel_rfl) (by kernel_rfl) (by kernel_rfl) (fun _ _ _ h => h) (Or.inl ⟨by rfl, ?_⟩) (by assumption) ?_
      rotate_left
      · intro w hSw; obtain ⟨q0, q1, q2⟩ := hSw; go_simp; try with_reducible rfl
      try simp only [Act.put, List.getElem_toArray, List.getElem_cons_succ, List.getElem_cons_zero, List.setIfInBounds_toArray, List.set_cons_zero, List.set_cons_succ]
      refine wpAnyH_take (i := 12) (v := ?_) rfl (by kernel_rfl) (by kernel_rfl) (by kernel_rfl) (fun _ _ _ h => h) (Or.inl ⟨by rfl, ?_⟩) (by assumption) ?_
      rotate_left
      · intro w hSw; obtain ⟨q0, q1, q2⟩ := hSw; go_simp; try with_reducible rfl
      try simp only [Act.put, List.getElem_toArray, List.getElem_cons_succ, List.getElem_cons_zero, List.setIfInBounds_toArray, List.set_cons_zero, List.set_cons_succ]
      refine wpAnyH_done (by kernel_rfl) ?_ _
      have HF := Lib.hid (HSD.out.trans hHeld.2.2)
      clear hHeld
      go_wp2_with fail
      go_roundw
      case rel => exact ⟨0 + 1, by go_num, by omega, by rw [HA.out], HF⟩
      case measure => simp [intOf]
    · rw [show ((1 : Nat) : Int) = 1 from rfl]
      obtain ⟨wd, ewd⟩ : ∃ wd, wr.drew = wd := ⟨_, rfl⟩
      have hsd : Same wr wd := by rw [← ewd]; exact drew_same _
      have HSD := Lib.hid (hS.out.trans hsd)
      have hbd := HSD.out.keep HB.out
      have HC := Lib.hid (show wd.cell? ⟨bb, 2, none⟩ = some (.int .u64 x2) ∧ wd.cell? ⟨bb, 3, none⟩ = some (.int .u64 x3) ∧ Same wd wd from ⟨by rw [cell_at hbd]; rfl, by rw [cell_at hbd]; rfl, Same.refl _⟩)
      have EWD := Lib.hid ewd
      have HA := Lib.hid (show ofL (([x0, x1, x2, x3, x4, x5].take (2 * 1)).flatMap encN) ++ ofL ([x2, x3].flatMap encN) = ofL (([x0, x1, x2, x3, x4, x5].take (2 * (1 + 1))).flatMap encN) by rw [append_ofL, ← List.flatMap_append]; rfl)
      have hcat := cat_of (a := ([x0, x1, x2, x3, x4, x5].take (2 * 1)).flatMap encN) (b := [x2, x3].flatMap encN) (by rw [flat_len]; simp) (by rw [flat_len]; simp)
      obtain ⟨A, eA⟩ : ∃ A, ofL (([x0, x1, x2, x3, x4, x5].take (2 * 1)).flatMap encN) = A := ⟨_, rfl⟩
      obtain ⟨B, eB⟩ : ∃ B, ofL ([x2, x3].flatMap encN) = B := ⟨_, rfl⟩
      rw [eA, eB] at HA hcat
      rw [eA]
      have EB2 := Lib.hid eB
      clear ewd hsd hbd hS eA eB
      go_upto_region 5 with fail
      refine wp_region_held_drew (S := fun w' => w'.cell? ⟨bb, 2, none⟩ = some (.int .u64 x2) ∧ w'.cell? ⟨bb, 3, none⟩ = some (.int .u64 x3) ∧ Same wd w') (by kernel_rfl) (by rw [EWD.out]; exact HC.out) (fun hHeld => ?_)
      rw [EWD.out] at hHeld ⊢
      refine wpAnyH_take (i := 0) (v := ?_) rfl (by kernel_rfl) (by kernel_rfl) (by kernel_rfl) (fun _ _ _ h => h) (Or.inl ⟨by rfl, ?_⟩) (by assumption) ?_
      rotate_left
      · intro w hSw; obtain ⟨q0, q1, q2⟩ := hSw; go_simp; try with_reducible rfl
      try simp only [Act.put, List.getElem_toArray, List.getElem_cons_succ, List.getElem_cons_zero, List.setIfInBounds_toArray, List.set_cons_zero, List.set_cons_succ]
      refine wpAnyH_take (i := 1) (v := ?_) rfl (by kernel_rfl) (by kernel_rfl) (by kernel_rfl) (fun _ _ _ h => h) (Or.inl ⟨by rfl, ?_⟩) (by assumption) ?_
      rotate_left
      · intro w hSw; obtain ⟨q0, q1, q2⟩ := hSw; go_simp; try with_reducible rfl
      try simp only [Act.put, List.getElem_toArray, List.getElem_cons_succ, List.getElem_cons_zero, List.setIfInBounds_toArray, List.set_cons_zero, List.set_cons_succ]
      refine wpAnyH_take (i := 2) (v := ?_) rfl (by kernel_rfl) (by kernel_rfl) (by kernel_rfl) (fun _ _ _ h => h) (Or.inl ⟨by rfl, ?_⟩) (by assumption) ?_
      rotate_left
      · intro w hSw; obtain ⟨q0, q1, q2⟩ := hSw; go_simp; try with_reducible rfl
      try simp only [Act.put, List.getElem_toArray, List.getElem_cons_succ, List.getElem_cons_zero, List.setIfInBounds_toArray, List.set_cons_zero, List.set_cons_succ]
      refine wpAnyH_take (i := 3) (v := ?_) rfl (by kernel_rfl) (by kernel_rfl) (by kernel_rfl) (fun _ _ _ h => h) (Or.inl ⟨by rfl, ?_⟩) (by assumption) ?_
      rotate_left
      · intro w hSw; obtain ⟨q0, q1, q2⟩ := hSw; go_simp; try with_reducible rfl
      try simp only [Act.put, List.getElem_toArray, List.getElem_cons_succ, List.getElem_cons_zero, List.setIfInBounds_toArray, List.set_cons_zero, List.set_cons_succ]
      refine wpAnyH_take (i := 4) (v := ?_) rfl (by kernel_rfl) (by kernel_rfl) (by kernel_rfl) (fun _ _ _ h => h) (Or.inl ⟨by rfl, ?_⟩) (by assumption) ?_
      rotate_left
      · intro w hSw; obtain ⟨q0, q1, q2⟩ := hSw; go_simp; try with_reducible rfl
      try simp only [Act.put, List.getElem_toArray, List.getElem_cons_succ, List.getElem_cons_zero, List.setIfInBounds_toArray, List.set_cons_zero, List.set_cons_succ]
      refine wpAnyH_take (i := 5) (v := ?_) rfl (by kernel_rfl) (by kernel_rfl) (by kernel_rfl) (fun _ _ _ h => h) (Or.inl ⟨by rfl, ?_⟩) (by assumption) ?_
      rotate_left
      · intro w hSw; obtain ⟨q0, q1, q2⟩ := hSw; go_simp; try with_reducible rfl
      try simp only [Act.put, List.getElem_toArray, List.getElem_cons_succ, List.getElem_cons_zero, List.setIfInBounds_toArray, List.set_cons_zero, List.set_cons_succ]
      refine wpAnyH_take (i := 6) (v := ?_) rfl (by kernel_rfl) (by kernel_rfl) (by kernel_rfl) (fun _ _ _ h => h) (Or.inl ⟨by rfl, ?_⟩) (by assumption) ?_
      rotate_left
      · intro w hSw; obtain ⟨q0, q1, q2⟩ := hSw; go_simp; try with_reducible rfl
      try simp only [Act.put, List.getElem_toArray, List.getElem_cons_succ, List.getElem_cons_zero, List.setIfInBounds_toArray, List.set_cons_zero, List.set_cons_succ]
      refine wpAnyH_take (i := 7) (v := ?_) rfl (by kernel_rfl) (by kernel_rfl) (by kernel_rfl) (fun _ _ _ h => h) (Or.inl ⟨by rfl, ?_⟩) (by assumption) ?_
      rotate_left
      · intro w hSw; obtain ⟨q0, q1, q2⟩ := hSw; go_simp; try with_reducible rfl
      try simp only [Act.put, List.getElem_toArray, List.getElem_cons_succ, List.getElem_cons_zero, List.setIfInBounds_toArray, List.set_cons_zero, List.set_cons_succ]
      refine wpAnyH_take (i := 8) (v := ?_) rfl (by kernel_rfl) (by kernel_rfl) (by kernel_rfl) (fun _ _ _ h => h) (Or.inl ⟨by rfl, ?_⟩) (by assumption) ?_
      rotate_left
      · intro w hSw; obtain ⟨q0, q1, q2⟩ := hSw; go_simp; try with_reducible rfl
      try simp only [Act.put, List.getElem_toArray, List.getElem_cons_succ, List.getElem_cons_zero, List.setIfInBounds_toArray, List.set_cons_zero, List.set_cons_succ]
      refine wpAnyH_ready (rs := [9]) (by kernel_rfl) (by simp) ?_
      refine AllReadyH.cons rfl (fun K hK => ?_) AllReadyH.nil
      go_simp
      refine hK.out _ _ ?_ (fun hHeld => ?_)
      · exact ⟨same_cell ((Same.refl wd).alloc _) hHeld.1, same_cell ((Same.refl wd).alloc _) hHeld.2.1, (Same.refl wd).alloc _⟩
      clear hK K
      try simp only [Act.put, List.getElem_toArray, List.getElem_cons_succ, List.getElem_cons_zero, List.setIfInBounds_toArray, List.set_cons_zero, List.set_cons_succ]
      refine wpAnyH_ready (rs := [10]) (by kernel_rfl) (by simp) ?_
      refine AllReadyH.cons rfl (fun K hK => ?_) AllReadyH.nil
      go_simp
      refine (rnums_any (some ⟨wd.heap.size, 0, none⟩) 2 2 [x2, x3] (by omega) _ (ints_at (xs := [x2, x3]) (heap_new wd _) (by intro x hx; simp at hx; rcases hx with rfl | rfl; exact HU.out _ (by simp); exact HU.out _ (by simp)) (by simp))).mono ?_
      rintro e w2 ⟨rfl, hs⟩
      rw [EB2.out]
      have hH2 := And.intro (same_cell hs hHeld.1) (And.intro (same_cell hs hHeld.2.1) (hHeld.2.2.trans hs))
      clear hs hHeld
      go_wp2_with fail
      refine hK.out _ _ ?_ (fun hHeld => ?_)
      · exact hH2
      clear hK K
      try simp only [Act.put, List.getElem_toArray, List.getElem_cons_succ, List.getElem_cons_zero, List.setIfInBounds_toArray, List.set_cons_zero, List.set_cons_succ]
      clear hH2
      refine wpAnyH_take (i := 11) (v := ?_) rfl (by kernel_rfl) (by kernel_rfl) (by kernel_rfl) (fun _ _ _ h => h) (Or.inl ⟨by rfl, ?_⟩) (by assumption) ?_
      rotate_left
      · intro w hSw; obtain ⟨q0, q1, q2⟩ := hSw; go_simp; try with_reducible rfl
      try simp only [Act.put, List.getElem_toArray, List.getElem_cons_succ, List.getElem_cons_zero, List.setIfInBounds_toArray, List.set_cons_zero, List.set_cons_succ]
      refine wpAnyH_take (i := 12) (v := ?_) rfl (by kernel_rfl) (by kernel_rfl) (by kernel_rfl) (fun _ _ _ h => h) (Or.inl ⟨by rfl, ?_⟩) (by assumption) ?_
      rotate_left
      · intro w hSw; obtain ⟨q0, q1, q2⟩ := hSw; go_simp; try with_reducible rfl
      try simp only [Act.put, List.getElem_toArray, List.getElem_cons_succ, List.getElem_cons_zero, List.setIfInBounds_toArray, List.set_cons_zero, List.set_cons_succ]
      refine wpAnyH_done (by kernel_rfl) ?_ _
      have HF := Lib.hid (HSD.out.trans hHeld.2.2)
      clear hHeld
      go_wp2_with fail
      go_roundw
      case rel => exact ⟨1 + 1, by go_num, by omega, by rw [HA.out], HF⟩
      case measure => simp [intOf]
    · rw [show ((2 : Nat) : Int) = 2 from rfl]
      obtain ⟨wd, ewd⟩ : ∃ wd, wr.drew = wd := ⟨_, rfl⟩
      have hsd : Same wr wd := by rw [← ewd]; exact drew_same _
      have HSD := Lib.hid (hS.out.trans hsd)
      have hbd := HSD.out.keep HB.out
      have HC := Lib.hid (show wd.cell? ⟨bb, 4, none⟩ = some (.int .u64 x4) ∧ wd.cell? ⟨bb, 5, none⟩ = some (.int .u64 x5) ∧ Same wd wd from ⟨by rw [cell_at hbd]; rfl, by rw [cell_at hbd]; rfl, Same.refl _⟩)
      have EWD := Lib.hid ewd
      have HA := Lib.hid (show ofL (([x0, x1, x2, x3, x4, x5].take (2 * 2)).flatMap encN) ++ ofL ([x4, x5].flatMap encN) = ofL (([x0, x1, x2, x3, x4, x5].take (2 * (2 + 1))).flatMap encN) by rw [append_ofL, ← List.flatMap_append]; rfl)
      have hcat := cat_of (a := ([x0, x1, x2, x3, x4, x5].take (2 * 2)).flatMap encN) (b := [x4, x5].flatMap encN) (by rw [flat_len]; simp) (by rw [flat_len]; simp)
      obtain ⟨A, eA⟩ : ∃ A, ofL (([x0, x1, x2, x3, x4, x5].take (2 * 2)).flatMap encN) = A := ⟨_, rfl⟩
      obtain ⟨B, eB⟩ : ∃ B, ofL ([x4, x5].flatMap encN) = B := ⟨_, rfl⟩
      rw [eA, eB] at HA hcat
      rw [eA]
      have EB2 := Lib.hid eB
      clear ewd hsd hbd hS eA eB
      go_upto_region 5 with fail
      refine wp_region_held_drew (S := fun w' => w'.cell? ⟨bb, 4, none⟩ = some (.int .u64 x4) ∧ w'.cell? ⟨bb, 5, none⟩ = some (.int .u64 x5) ∧ Same wd w') (by kernel_rfl) (by rw [EWD.out]; exact HC.out) (fun hHeld => ?_)
      rw [EWD.out] at hHeld ⊢
      refine wpAnyH_take (i := 0) (v := ?_) rfl (by kernel_rfl) (by kernel_rfl) (by kernel_rfl) (fun _ _ _ h => h) (Or.inl ⟨by rfl, ?_⟩) (by assumption) ?_
      rotate_left
      · intro w hSw; obtain ⟨q0, q1, q2⟩ := hSw; go_simp; try with_reducible rfl
      try simp only [Act.put, List.getElem_toArray, List.getElem_cons_succ, List.getElem_cons_zero, List.setIfInBounds_toArray, List.set_cons_zero, List.set_cons_succ]
      refine wpAnyH_take (i := 1) (v := ?_) rfl (by kernel_rfl) (by kernel_rfl) (by kernel_rfl) (fun _ _ _ h => h) (Or.inl ⟨by rfl, ?_⟩) (by assumption) ?_
      rotate_left
      · intro w hSw; obtain ⟨q0, q1, q2⟩ := hSw; go_simp; try with_reducible rfl
      try simp only [Act.put, List.getElem_toArray, List.getElem_cons_succ, List.getElem_cons_zero, List.setIfInBounds_toArray, List.set_cons_zero, List.set_cons_succ]
      refine wpAnyH_take (i := 2) (v := ?_) rfl (by kernel_rfl) (by kernel_rfl) (by kernel_rfl) (fun _ _ _ h => h) (Or.inl ⟨by rfl, ?_⟩) (by assumption) ?_
      rotate_left
      · intro w hSw; obtain ⟨q0, q1, q2⟩ := hSw; go_simp; try with_reducible rfl
      try simp only [Act.put, List.getElem_toArray, List.getElem_cons_succ, List.getElem_cons_zero, List.setIfInBounds_toArray, List.set_cons_zero, List.set_cons_succ]
      refine wpAnyH_take (i := 3) (v := ?_) rfl (by kernel_rfl) (by kernel_rfl) (by kernel_rfl) (fun _ _ _ h => h) (Or.inl ⟨by rfl, ?_⟩) (by assumption) ?_
      rotate_left
      · intro w hSw; obtain ⟨q0, q1, q2⟩ := hSw; go_simp; try with_reducible rfl
      try simp only [Act.put, List.getElem_toArray, List.getElem_cons_succ, List.getElem_cons_zero, List.setIfInBounds_toArray, List.set_cons_zero, List.set_cons_succ]
      refine wpAnyH_take (i := 4) (v := ?_) rfl (by kernel_rfl) (by kernel_rfl) (by kernel_rfl) (fun _ _ _ h => h) (Or.inl ⟨by rfl, ?_⟩) (by assumption) ?_
      rotate_left
      · intro w hSw; obtain ⟨q0, q1, q2⟩ := hSw; go_simp; try with_reducible rfl
      try simp only [Act.put, List.getElem_toArray, List.getElem_cons_succ, List.getElem_cons_zero, List.setIfInBounds_toArray, List.set_cons_zero, List.set_cons_succ]
      refine wpAnyH_take (i := 5) (v := ?_) rfl (by kernel_rfl) (by kernel_rfl) (by kernel_rfl) (fun _ _ _ h => h) (Or.inl ⟨by rfl, ?_⟩) (by assumption) ?_
      rotate_left
      · intro w hSw; obtain ⟨q0, q1, q2⟩ := hSw; go_simp; try with_reducible rfl
      try simp only [Act.put, List.getElem_toArray, List.getElem_cons_succ, List.getElem_cons_zero, List.setIfInBounds_toArray, List.set_cons_zero, List.set_cons_succ]
      refine wpAnyH_take (i := 6) (v := ?_) rfl (by kernel_rfl) (by kernel_rfl) (by kernel_rfl) (fun _ _ _ h => h) (Or.inl ⟨by rfl, ?_⟩) (by assumption) ?_
      rotate_left
      · intro w hSw; obtain ⟨q0, q1, q2⟩ := hSw; go_simp; try with_reducible rfl
      try simp only [Act.put, List.getElem_toArray, List.getElem_cons_succ, List.getElem_cons_zero, List.setIfInBounds_toArray, List.set_cons_zero, List.set_cons_succ]
      refine wpAnyH_take (i := 7) (v := ?_) rfl (by kernel_rfl) (by kernel_rfl) (by kernel_rfl) (fun _ _ _ h => h) (Or.inl ⟨by rfl, ?_⟩) (by assumption) ?_
      rotate_left
      · intro w hSw; obtain ⟨q0, q1, q2⟩ := hSw; go_simp; try with_reducible rfl
      try simp only [Act.put, List.getElem_toArray, List.getElem_cons_succ, List.getElem_cons_zero, List.setIfInBounds_toArray, List.set_cons_zero, List.set_cons_succ]
      refine wpAnyH_take (i := 8) (v := ?_) rfl (by kernel_rfl) (by kernel_rfl) (by kernel_rfl) (fun _ _ _ h => h) (Or.inl ⟨by rfl, ?_⟩) (by assumption) ?_
      rotate_left
      · intro w hSw; obtain ⟨q0, q1, q2⟩ := hSw; go_simp; try with_reducible rfl
      try simp only [Act.put, List.getElem_toArray, List.getElem_cons_succ, List.getElem_cons_zero, List.setIfInBounds_toArray, List.set_cons_zero, List.set_cons_succ]
      refine wpAnyH_ready (rs := [9]) (by kernel_rfl) (by simp) ?_
      refine AllReadyH.cons rfl (fun K hK => ?_) AllReadyH.nil
      go_simp
      refine hK.out _ _ ?_ (fun hHeld => ?_)
      · exact ⟨same_cell ((Same.refl wd).alloc _) hHeld.1, same_cell ((Same.refl wd).alloc _) hHeld.2.1, (Same.refl wd).alloc _⟩
      clear hK K
      try simp only [Act.put, List.getElem_toArray, List.getElem_cons_succ, List.getElem_cons_zero, List.setIfInBounds_toArray, List.set_cons_zero, List.set_cons_succ]
      refine wpAnyH_ready (rs := [10]) (by kernel_rfl) (by simp) ?_
      refine AllReadyH.cons rfl (fun K hK => ?_) AllReadyH.nil
      go_simp
      refine (rnums_any (some ⟨wd.heap.size, 0, none⟩) 2 2 [x4, x5] (by omega) _ (ints_at (xs := [x4, x5]) (heap_new wd _) (by intro x hx; simp at hx; rcases hx with rfl | rfl; exact HU.out _ (by simp); exact HU.out _ (by simp)) (by simp))).mono ?_
      rintro e w2 ⟨rfl, hs⟩
      rw [EB2.out]
      have hH2 := And.intro (same_cell hs hHeld.1) (And.intro (same_cell hs hHeld.2.1) (hHeld.2.2.trans hs))
      clear hs hHeld
      go_wp2_with fail
      refine hK.out _ _ ?_ (fun hHeld => ?_)
      · exact hH2
      clear hK K
      try simp only [Act.put, List.getElem_toArray, List.getElem_cons_succ, List.getElem_cons_zero, List.setIfInBounds_toArray, List.set_cons_zero, List.set_cons_succ]
      clear hH2
      refine wpAnyH_take (i := 11) (v := ?_) rfl (by kernel_rfl) (by kernel_rfl) (by kernel_rfl) (fun _ _ _ h => h) (Or.inl ⟨by rfl, ?_⟩) (by assumption) ?_
      rotate_left
      · intro w hSw; obtain ⟨q0, q1, q2⟩ := hSw; go_simp; try with_reducible rfl
      try simp only [Act.put, List.getElem_toArray, List.getElem_cons_succ, List.getElem_cons_zero, List.setIfInBounds_toArray, List.set_cons_zero, List.set_cons_succ]
      refine wpAnyH_take (i := 12) (v := ?_) rfl (by kernel_rfl) (by kernel_rfl) (by kernel_rfl) (fun _ _ _ h => h) (Or.inl ⟨by rfl, ?_⟩) (by assumption) ?_
      rotate_left
      · intro w hSw; obtain ⟨q0, q1, q2⟩ := hSw; go_simp; try with_reducible rfl
      try simp only [Act.put, List.getElem_toArray, List.getElem_cons_succ, List.getElem_cons_zero, List.setIfInBounds_toArray, List.set_cons_zero, List.set_cons_succ]
      refine wpAnyH_done (by kernel_rfl) ?_ _
      have HF := Lib.hid (HSD.out.trans hHeld.2.2)
      clear hHeld
      go_wp2_with fail
      go_roundw
      case rel => exact ⟨2 + 1, by go_num, by omega, by rw [HA.out], HF⟩
      case measure => simp [intOf]
    · rw [show ((3 : Nat) : Int) = 3 from rfl]
      go_wp2_with fail
      go_ret
      exact ⟨rfl, HS0.out.trans hS.out⟩
end Go.Proofs.Ytdbhcdhenapfoaa
