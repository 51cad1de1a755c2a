/- Layer 10: the document's lists, proofs, boxes as bytes. -/
import Derived.Test.YtdbhcdhenapfoaaRefS
import Derived.Deep.RegionHeld3
set_option linter.unusedVariables false
set_option linter.unusedSimpArgs false
namespace Go.Proofs.Ytdbhcdhenapfoaa
open Go.RowKit Go.Maps
theorem cat_of {a b : Bs} (ha : a.length ≤ 1000000) (hb : b.length ≤ 1000000) : ¬ ((ofL a).size + (ofL b).size > 9223372036854775807) := by rw [size_ofL, size_ofL]; omega
theorem rnumbers_any (a : Option Addr) (n c : Nat) (xs : List Int) (hn : n ≤ 64) (w : World) (h : IntsAt w a n xs) :
    Calls Try.prog 36 #[.slice a n c] w fun z w' => z = .returned (.string (ofL (numsC.enc xs))) ∧ Same w w' := by
  have HI := Lib.hid h
  have HA := Lib.hid (show ofL (encC n) ++ ofL (xs.flatMap encN) = ofL (numsC.enc xs) by rw [append_ofL, ← h.len]; rfl)
  have hcat := cat_of (a := encC n) (b := xs.flatMap encN) (by show 2 ≤ _; omega) (by rw [flat_len, h.len]; omega)
  clear h
  go_enter Try.func36, Try.ntmps36
  go_wp2_with fail
  refine (rcount_s n hn w).mono ?_
  rintro e w1 ⟨rfl, hs1⟩
  have HS1 := Lib.hid hs1
  clear hs1
  go_wp2_with fail
  refine (rnums_any a n c xs (by omega) w1 (HI.out.same HS1.out)).mono ?_
  rintro e w2 ⟨rfl, hs2⟩
  have HS2 := Lib.hid (HS1.out.trans hs2)
  clear hs2
  go_wp2_with fail
  try rw [HA.out]
  go_ret
  exact ⟨rfl, HS2.out⟩
theorem nums_fit {w : World} {a : Option Addr} {n : Nat} {xs : List Int} (h : IntsAt w a n xs) (hn : n ≤ 64) : numsC.ok xs := ⟨⟨by rw [h.len]; exact hn, by rw [h.len]; omega⟩, h.u⟩
theorem rproofs_any (a1 : Option Addr) (n1 c1 : Nat) (a2 : Option Addr) (n2 c2 : Nat) (p : ProofD) (h1 : n1 ≤ 64) (h2 : n2 ≤ 64) (w : World) (k1 : IntsAt w a1 n1 p.1) (k2 : IntsAt w a2 n2 p.2) :
    Calls Try.prog 35 #[.agg #[.slice a1 n1 c1, .slice a2 n2 c2]] w fun z w' => z = .returned (.string (ofL (proofC.enc p))) ∧ Same w w' := by
  have HI1 := Lib.hid k1
  have HI2 := Lib.hid k2
  have HA := Lib.hid (show ofL (numsC.enc p.1) ++ ofL (numsC.enc p.2) = ofL (proofC.enc p) by rw [append_ofL]; rfl)
  have hcat := cat_of (a := numsC.enc p.1) (b := numsC.enc p.2) (by have := nums_len (nums_fit k1 h1); omega) (by have := nums_len (nums_fit k2 h2); omega)
  obtain ⟨w0, ew0⟩ : ∃ w0, w.alloc (.cells #[.slice a1 n1 c1, .slice a2 n2 c2] 26) = w0 := ⟨_, rfl⟩
  obtain ⟨pb, epb⟩ : ∃ pb, w.heap.size = pb := ⟨_, rfl⟩
  have hb : w0.heap[pb]? = some (.cells #[.slice a1 n1 c1, .slice a2 n2 c2] 26 (0, 0)) := by rw [← ew0, ← epb]; exact heap_new _ _
  obtain ⟨wd, ewd⟩ : ∃ wd, w0.drew = wd := ⟨_, rfl⟩
  have hsd : Same w0 wd := by rw [← ewd]; exact drew_same _
  have HS0 := Lib.hid (show Same w wd by rw [← ew0] at hsd; exact ((Same.refl w).alloc _).trans hsd)
  have HC := Lib.hid (show wd.cell? ⟨pb, 0, none⟩ = some (.slice a1 n1 c1) ∧ wd.cell? ⟨pb, 1, none⟩ = some (.slice a2 n2 c2) ∧ Same wd wd from ⟨by rw [cell_at (hsd.keep hb)]; rfl, by rw [cell_at (hsd.keep hb)]; rfl, Same.refl _⟩)
  have EW0 := Lib.hid ew0
  have EPB := Lib.hid epb
  have EWD := Lib.hid ewd
  clear k1 k2 ew0 epb hb ewd hsd
  go_enter Try.func35, Try.ntmps35
  go_upto_region 1 with fail
  rw [EW0.out, EPB.out]
  refine wp_region_held_drew (S := fun w' => w'.cell? ⟨pb, 0, none⟩ = some (.slice a1 n1 c1) ∧ w'.cell? ⟨pb, 1, none⟩ = some (.slice a2 n2 c2) ∧ Same wd w') (by kernel_rfl) (by rw [EWD.out]; exact HC.out) (fun hHeld => ?_)
  rw [EWD.out] at hHeld ⊢
  refine wpAnyH_take (i := 0) (v := ?_) rfl (by kernel_rfl) (by kernel_rfl) (by kernel_rfl) (fun _ _ _ h => h) (Or.inl ⟨by rfl, ?_⟩) (by assumption) ?_
  rotate_left
  · intro w hSw; obtain ⟨q0, q1, q2⟩ := hSw; go_simp; try with_reducible rfl
  try simp only [Act.put, List.getElem_toArray, List.getElem_cons_succ, List.getElem_cons_zero, List.setIfInBounds_toArray, List.set_cons_zero, List.set_cons_succ]
  refine wpAnyH_take (i := 1) (v := ?_) rfl (by kernel_rfl) (by kernel_rfl) (by kernel_rfl) (fun _ _ _ h => h) (Or.inl ⟨by rfl, ?_⟩) (by assumption) ?_
  rotate_left
  · intro w hSw; obtain ⟨q0, q1, q2⟩ := hSw; go_simp; try with_reducible rfl
  try simp only [Act.put, List.getElem_toArray, List.getElem_cons_succ, List.getElem_cons_zero, List.setIfInBounds_toArray, List.set_cons_zero, List.set_cons_succ]
  refine wpAnyH_take (i := 3) (v := ?_) rfl (by kernel_rfl) (by kernel_rfl) (by kernel_rfl) (fun _ _ _ h => h) (Or.inl ⟨by rfl, ?_⟩) (by assumption) ?_
  rotate_left
  · intro w hSw; obtain ⟨q0, q1, q2⟩ := hSw; go_simp; try with_reducible rfl
  try simp only [Act.put, List.getElem_toArray, List.getElem_cons_succ, List.getElem_cons_zero, List.setIfInBounds_toArray, List.set_cons_zero, List.set_cons_succ]
  refine wpAnyH_take (i := 4) (v := ?_) rfl (by kernel_rfl) (by kernel_rfl) (by kernel_rfl) (fun _ _ _ h => h) (Or.inl ⟨by rfl, ?_⟩) (by assumption) ?_
  rotate_left
  · intro w hSw; obtain ⟨q0, q1, q2⟩ := hSw; go_simp; try with_reducible rfl
  try simp only [Act.put, List.getElem_toArray, List.getElem_cons_succ, List.getElem_cons_zero, List.setIfInBounds_toArray, List.set_cons_zero, List.set_cons_succ]
  refine wpAnyH_ready (rs := [2]) (by kernel_rfl) (by simp) ?_
  refine AllReadyH.cons rfl (fun K hK => ?_) AllReadyH.nil
  go_simp
  refine (rnumbers_any a1 n1 c1 p.1 h1 wd (HI1.out.same (HS0.out.trans hHeld.2.2))).mono ?_
  rintro e wx ⟨rfl, hs⟩
  have hH2 := And.intro (same_cell hs hHeld.1) (And.intro (same_cell hs hHeld.2.1) (hHeld.2.2.trans hs))
  clear hs hHeld
  go_wp2_with fail
  refine hK.out _ _ ?_ (fun hHeld => ?_)
  · exact hH2
  clear hK K
  try simp only [Act.put, List.getElem_toArray, List.getElem_cons_succ, List.getElem_cons_zero, List.setIfInBounds_toArray, List.set_cons_zero, List.set_cons_succ]
  clear hH2
  refine wpAnyH_ready (rs := [5]) (by kernel_rfl) (by simp) ?_
  refine AllReadyH.cons rfl (fun K hK => ?_) AllReadyH.nil
  go_simp
  refine (rnumbers_any a2 n2 c2 p.2 h2 wx (HI2.out.same (HS0.out.trans hHeld.2.2))).mono ?_
  rintro e wy ⟨rfl, hs⟩
  have hH2 := And.intro (same_cell hs hHeld.1) (And.intro (same_cell hs hHeld.2.1) (hHeld.2.2.trans hs))
  clear hs hHeld
  go_wp2_with fail
  refine hK.out _ _ ?_ (fun hHeld => ?_)
  · exact hH2
  clear hK K
  try simp only [Act.put, List.getElem_toArray, List.getElem_cons_succ, List.getElem_cons_zero, List.setIfInBounds_toArray, List.set_cons_zero, List.set_cons_succ]
  clear hH2
  refine wpAnyH_take (i := 6) (v := ?_) rfl (by kernel_rfl) (by kernel_rfl) (by kernel_rfl) (fun _ _ _ h => h) (Or.inl ⟨by rfl, ?_⟩) (by assumption) ?_
  rotate_left
  · intro w hSw; obtain ⟨q0, q1, q2⟩ := hSw; go_simp; try with_reducible rfl
  try simp only [Act.put, List.getElem_toArray, List.getElem_cons_succ, List.getElem_cons_zero, List.setIfInBounds_toArray, List.set_cons_zero, List.set_cons_succ]
  refine wpAnyH_take (i := 7) (v := ?_) rfl (by kernel_rfl) (by kernel_rfl) (by kernel_rfl) (fun _ _ _ h => h) (Or.inl ⟨by rfl, ?_⟩) (by assumption) ?_
  rotate_left
  · intro w hSw; obtain ⟨q0, q1, q2⟩ := hSw; go_simp; try with_reducible rfl
  try simp only [Act.put, List.getElem_toArray, List.getElem_cons_succ, List.getElem_cons_zero, List.setIfInBounds_toArray, List.set_cons_zero, List.set_cons_succ]
  refine wpAnyH_done (by kernel_rfl) ?_ _
  rw [HA.out]
  have HF := Lib.hid hHeld.2.2
  clear hHeld
  go_wp2_with fail
  go_ret
  exact ⟨rfl, HS0.out.trans HF.out⟩
end Go.Proofs.Ytdbhcdhenapfoaa
