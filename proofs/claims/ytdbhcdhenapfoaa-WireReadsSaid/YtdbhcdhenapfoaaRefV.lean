/- Layer 10: the document's letters as bytes. -/
import Derived.Test.YtdbhcdhenapfoaaRefU
import Derived.Deep.RegionHeld3
set_option linter.unusedVariables false
set_option linter.unusedSimpArgs false
namespace Go.Proofs.Ytdbhcdhenapfoaa
open Go.RowKit Go.Maps
theorem let_cells {w : World} {b : Nat} {x0 x1 x2 x3 x4 x5 : Int} {a1 a2 : Option Addr} {n1 c1 n2 c2 : Nat} (h : w.heap[b]? = some (.cells #[.int .u64 x0, .int .u64 x1, .int .u64 x2, .int .u64 x3, .int .u64 x4, .int .u64 x5, .slice a1 n1 c1, .slice a2 n2 c2] 39 (0, 0))) : w.cell? ⟨b, 0, none⟩ = some (.int .u64 x0) ∧ w.cell? ⟨b, 1, none⟩ = some (.int .u64 x1) ∧ w.cell? ⟨b, 2, none⟩ = some (.int .u64 x2) ∧ w.cell? ⟨b, 3, none⟩ = some (.int .u64 x3) ∧ w.cell? ⟨b, 4, none⟩ = some (.int .u64 x4) ∧ w.cell? ⟨b, 5, none⟩ = some (.int .u64 x5) ∧ w.cell? ⟨b, 6, none⟩ = some (.slice a1 n1 c1) ∧ w.cell? ⟨b, 7, none⟩ = some (.slice a2 n2 c2) :=
  ⟨by rw [cell_at h]; rfl, by rw [cell_at h]; rfl, by rw [cell_at h]; rfl, by rw [cell_at h]; rfl, by rw [cell_at h]; rfl, by rw [cell_at h]; rfl, by rw [cell_at h]; rfl, by rw [cell_at h]; rfl⟩
set_option maxHeartbeats 1600000 in
theorem rLetter_any (x0 x1 x2 x3 x4 x5 : Int) (a1 : Option Addr) (n1 c1 : Nat) (a2 : Option Addr) (n2 c2 : Nat) (p : ProofD) (w : World) (hu : ∀ x ∈ [x0, x1, x2, x3, x4, x5], U64 x) (k1 : IntsAt w a1 n1 p.1) (k2 : IntsAt w a2 n2 p.2) :
    Calls Try.prog 15 #[.agg #[.int .u64 x0, .int .u64 x1, .int .u64 x2, .int .u64 x3, .int .u64 x4, .int .u64 x5, .slice a1 n1 c1, .slice a2 n2 c2]] w fun z w' =>
      Same w w' ∧ ((letterC.ok ([x0, x1, x2, x3, x4, x5], p) ∧ z = .returned (.tuple #[.string (ofL (1 :: letterC.enc ([x0, x1, x2, x3, x4, x5], p))), .bool true])) ∨ (¬ letterC.ok ([x0, x1, x2, x3, x4, x5], p) ∧ z = .returned (.tuple #[.string { data := #[] }, .bool false]))) := by
  obtain ⟨lb, elb⟩ : ∃ lb, w.heap.size = lb := ⟨_, rfl⟩
  obtain ⟨w0, ew0⟩ : ∃ w0, w.alloc (.cells #[.int .u64 x0, .int .u64 x1, .int .u64 x2, .int .u64 x3, .int .u64 x4, .int .u64 x5, .slice a1 n1 c1, .slice a2 n2 c2] 39) = w0 := ⟨_, rfl⟩
  have hS0 : Same w w0 := by rw [← ew0]; exact (Same.refl w).alloc _
  have HB0 := Lib.hid (show w0.heap[lb]? = some (.cells #[.int .u64 x0, .int .u64 x1, .int .u64 x2, .int .u64 x3, .int .u64 x4, .int .u64 x5, .slice a1 n1 c1, .slice a2 n2 c2] 39 (0, 0)) by rw [← ew0, ← elb]; exact heap_new _ _)
  have HS0 := Lib.hid hS0
  have HI1 := Lib.hid k1
  have HI2 := Lib.hid k2
  have HU := Lib.hid hu
  have EW0 := Lib.hid ew0
  have ELB := Lib.hid elb
  have g6 : w0.cell? ⟨lb, 6, none⟩ = some (.slice a1 n1 c1) := by rw [cell_at HB0.out]; rfl
  have g7 : w0.cell? ⟨lb, 7, none⟩ = some (.slice a2 n2 c2) := by rw [cell_at HB0.out]; rfl
  clear k1 k2 hu ew0 elb hS0
  go_enter Try.func15, Try.ntmps15
  go_upto_region 1 with fail
  rw [EW0.out, ELB.out]
  go_wp2_with fail
  refine (rshort_any a1 n1 c1 a2 n2 c2 w0).mono ?_
  rintro e w1 ⟨rfl, hs1⟩
  have HS1 := Lib.hid (HS0.out.trans hs1)
  have HB1 := Lib.hid (hs1.keep HB0.out)
  clear hs1 g6 g7
  by_cases hfit : n1 ≤ 64 ∧ n2 ≤ 64
  case neg =>
    have HNO := Lib.hid (show ¬ letterC.ok ([x0, x1, x2, x3, x4, x5], p) from fun h => hfit ⟨by have h1 := h.2.1.1.1; have h2 := HI1.out.len; simp only at h1; omega, by have h1 := h.2.2.1.1; have h2 := HI2.out.len; simp only at h1; omega⟩)
    have HE := Lib.hid (show (decide (n1 ≤ 64) && decide (n2 ≤ 64)) = false by simp; intro h; simp at hfit; exact hfit h)
    rw [HE.out]
    go_wp2_with fail
    go_ret2
    exact ⟨HS1.out, Or.inr ⟨HNO.out, rfl⟩⟩
  obtain ⟨h1, h2⟩ := hfit
  have HE := Lib.hid (show (decide (n1 ≤ 64) && decide (n2 ≤ 64)) = true by simp [h1, h2])
  rw [HE.out]
  have HOK := Lib.hid (show letterC.ok ([x0, x1, x2, x3, x4, x5], p) from ⟨⟨rfl, HU.out⟩, nums_fit HI1.out h1, nums_fit HI2.out h2⟩)
  obtain ⟨wd, ewd⟩ : ∃ wd, w1.drew = wd := ⟨_, rfl⟩
  have hsd : Same w1 wd := by rw [← ewd]; exact drew_same _
  have HSD := Lib.hid (HS1.out.trans hsd)
  have HC := Lib.hid (And.intro (hsd.keep HB1.out) (Same.refl wd))
  have EWD := Lib.hid ewd
  obtain ⟨A, eA⟩ : ∃ A, ofL ([x0, x1, x2, x3, x4, x5].flatMap encN) = A := ⟨_, rfl⟩
  obtain ⟨B, eB⟩ : ∃ B, ofL (proofC.enc p) = B := ⟨_, rfl⟩
  have hsa : A.size = 48 := by rw [← eA, size_ofL, flat_len]; rfl
  have hsb : B.size ≤ 1028 := by rw [← eB, size_ofL]; exact proof_len HOK.out.2
  have hc1 : ¬ (1 + A.size > 9223372036854775807) := by omega
  have hc2 : ¬ (1 + A.size + B.size > 9223372036854775807) := by omega
  have HA := Lib.hid (show ({ data := #[1] } : ByteArray) ++ A ++ B = ofL (1 :: letterC.enc ([x0, x1, x2, x3, x4, x5], p)) by
    rw [← eA, ← eB, show ({ data := #[1] } : ByteArray) = ofL [1] from rfl, append_ofL, append_ofL]; rfl)
  have EA2 := Lib.hid eA
  have EB2 := Lib.hid eB
  clear ewd hsd eA eB hsa hsb
  go_upto_region 3 with fail
  refine wp_region_held_drew (S := fun w' => Hid (w'.heap[lb]? = some (.cells #[.int .u64 x0, .int .u64 x1, .int .u64 x2, .int .u64 x3, .int .u64 x4, .int .u64 x5, .slice a1 n1 c1, .slice a2 n2 c2] 39 (0, 0)) ∧ Same wd w')) (by kernel_rfl) (by rw [EWD.out]; exact HC) (fun hHeld => ?_)
  rw [EWD.out] at hHeld ⊢
  refine wpAnyH_take (i := 0) (v := ?_) rfl (by kernel_rfl) (by kernel_rfl) (by kernel_rfl) (fun _ _ _ h => h) (Or.inl ⟨by rfl, ?_⟩) (by assumption) ?_
  rotate_left
  · intro w hSw; obtain ⟨q0, q1, q2, q3, q4, q5, q6, q7⟩ := let_cells hSw.out.1; go_simp; try with_reducible rfl
  try simp only [Act.put, List.getElem_toArray, List.getElem_cons_succ, List.getElem_cons_zero, List.setIfInBounds_toArray, List.set_cons_zero, List.set_cons_succ]
  refine wpAnyH_take (i := 1) (v := ?_) rfl (by kernel_rfl) (by kernel_rfl) (by kernel_rfl) (fun _ _ _ h => h) (Or.inl ⟨by rfl, ?_⟩) (by assumption) ?_
  rotate_left
  · intro w hSw; obtain ⟨q0, q1, q2, q3, q4, q5, q6, q7⟩ := let_cells hSw.out.1; go_simp; try with_reducible rfl
  try simp only [Act.put, List.getElem_toArray, List.getElem_cons_succ, List.getElem_cons_zero, List.setIfInBounds_toArray, List.set_cons_zero, List.set_cons_succ]
  refine wpAnyH_take (i := 4) (v := ?_) rfl (by kernel_rfl) (by kernel_rfl) (by kernel_rfl) (fun _ _ _ h => h) (Or.inl ⟨by rfl, ?_⟩) (by assumption) ?_
  rotate_left
  · intro w hSw; obtain ⟨q0, q1, q2, q3, q4, q5, q6, q7⟩ := let_cells hSw.out.1; go_simp; try with_reducible rfl
  try simp only [Act.put, List.getElem_toArray, List.getElem_cons_succ, List.getElem_cons_zero, List.setIfInBounds_toArray, List.set_cons_zero, List.set_cons_succ]
  refine wpAnyH_take (i := 5) (v := ?_) rfl (by kernel_rfl) (by kernel_rfl) (by kernel_rfl) (fun _ _ _ h => h) (Or.inl ⟨by rfl, ?_⟩) (by assumption) ?_
  rotate_left
  · intro w hSw; obtain ⟨q0, q1, q2, q3, q4, q5, q6, q7⟩ := let_cells hSw.out.1; go_simp; try with_reducible rfl
  try simp only [Act.put, List.getElem_toArray, List.getElem_cons_succ, List.getElem_cons_zero, List.setIfInBounds_toArray, List.set_cons_zero, List.set_cons_succ]
  refine wpAnyH_ready (rs := [2]) (by kernel_rfl) (by simp) ?_
  refine AllReadyH.cons rfl (fun K hK => ?_) AllReadyH.nil
  go_simp
  refine (rboxs_any x0 x1 x2 x3 x4 x5 HU.out wd).mono ?_
  rintro e wx ⟨rfl, hs⟩
  rw [EA2.out]
  have hH2 := Lib.hid (And.intro (hs.keep hHeld.out.1) (hHeld.out.2.trans hs))
  clear hs hHeld
  go_wp2_with fail
  refine hK.out _ _ ?_ (fun hHeld => ?_)
  · exact hH2
  clear hK K
  try simp only [Act.put, List.getElem_toArray, List.getElem_cons_succ, List.getElem_cons_zero, List.setIfInBounds_toArray, List.set_cons_zero, List.set_cons_succ]
  clear hH2
  refine wpAnyH_take (i := 3) (v := ?_) rfl (by kernel_rfl) (by kernel_rfl) (by kernel_rfl) (fun _ _ _ h => h) (Or.inl ⟨by rfl, ?_⟩) (by assumption) ?_
  rotate_left
  · intro w hSw; obtain ⟨q0, q1, q2, q3, q4, q5, q6, q7⟩ := let_cells hSw.out.1; go_simp; try with_reducible rfl
  try simp only [Act.put, List.getElem_toArray, List.getElem_cons_succ, List.getElem_cons_zero, List.setIfInBounds_toArray, List.set_cons_zero, List.set_cons_succ]
  refine wpAnyH_ready (rs := [6]) (by kernel_rfl) (by simp) ?_
  refine AllReadyH.cons rfl (fun K hK => ?_) AllReadyH.nil
  go_simp
  refine (rproofs_any a1 n1 c1 a2 n2 c2 p h1 h2 wx (HI1.out.same (HSD.out.trans (hHeld.out.2))) (HI2.out.same (HSD.out.trans (hHeld.out.2)))).mono ?_
  rintro e wy ⟨rfl, hs⟩
  rw [EB2.out]
  have hH2 := Lib.hid (And.intro (hs.keep hHeld.out.1) (hHeld.out.2.trans hs))
  clear hs hHeld
  go_wp2_with fail
  refine hK.out _ _ ?_ (fun hHeld => ?_)
  · exact hH2
  clear hK K
  try simp only [Act.put, List.getElem_toArray, List.getElem_cons_succ, List.getElem_cons_zero, List.setIfInBounds_toArray, List.set_cons_zero, List.set_cons_succ]
  clear hH2
  refine wpAnyH_take (i := 7) (v := ?_) rfl (by kernel_rfl) (by kernel_rfl) (by kernel_rfl) (fun _ _ _ h => h) (Or.inl ⟨by rfl, ?_⟩) (by assumption) ?_
  rotate_left
  · intro w hSw; obtain ⟨q0, q1, q2, q3, q4, q5, q6, q7⟩ := let_cells hSw.out.1; go_simp; try with_reducible rfl
  try simp only [Act.put, List.getElem_toArray, List.getElem_cons_succ, List.getElem_cons_zero, List.setIfInBounds_toArray, List.set_cons_zero, List.set_cons_succ]
  refine wpAnyH_take (i := 8) (v := ?_) rfl (by kernel_rfl) (by kernel_rfl) (by kernel_rfl) (fun _ _ _ h => h) (Or.inl ⟨by rfl, ?_⟩) (by assumption) ?_
  rotate_left
  · intro w hSw; obtain ⟨q0, q1, q2, q3, q4, q5, q6, q7⟩ := let_cells hSw.out.1; go_simp; try with_reducible rfl
  try simp only [Act.put, List.getElem_toArray, List.getElem_cons_succ, List.getElem_cons_zero, List.setIfInBounds_toArray, List.set_cons_zero, List.set_cons_succ]
  refine wpAnyH_take (i := 9) (v := ?_) rfl (by kernel_rfl) (by kernel_rfl) (by kernel_rfl) (fun _ _ _ h => h) (Or.inl ⟨by rfl, ?_⟩) (by assumption) ?_
  rotate_left
  · intro w hSw; obtain ⟨q0, q1, q2, q3, q4, q5, q6, q7⟩ := let_cells hSw.out.1; go_simp; try with_reducible rfl
  try simp only [Act.put, List.getElem_toArray, List.getElem_cons_succ, List.getElem_cons_zero, List.setIfInBounds_toArray, List.set_cons_zero, List.set_cons_succ]
  refine wpAnyH_done (by kernel_rfl) ?_ _
  have HF := Lib.hid (HSD.out.trans hHeld.out.2)
  clear hHeld
  try rw [HA.out]
  go_wp2_with fail
  go_ret2
  exact ⟨HF.out, Or.inl ⟨HOK.out, rfl⟩⟩
end Go.Proofs.Ytdbhcdhenapfoaa
