/- gamal.Seal: an element, sealed for a key. -/
import Derived.Test.YtfoncfojljmimaaGKey
import Derived.Test.YtfoncfojljmimaaPairS
import Derived.Deep.RegionHeld3
import Derived.Handy
set_option linter.unusedVariables false
set_option linter.unusedSimpArgs false
namespace Go.Proofs.Ytfoncfojljmimaa
open Go.RowKit NT
set_option maxHeartbeats 3200000 in
theorem seal_any (P Q G H : Int) (ra : Option Addr) (rn rc : Nat) (y m r : Int) (P0 : 0 ≤ P) (Q0 : 0 ≤ Q) (Q1 : Q < 18446744073709551616) (G0 : 0 ≤ G) (y0 : 0 ≤ y) (hm : U64 m) (r0 : 0 ≤ r) (r1 : r < 18446744073709551616) (w : World) :
    Calls Try.prog 18 #[.agg #[.int .u64 P, .int .u64 Q, .int .u64 G, .int .u64 H, .slice ra rn rc], .int .u64 y, .int .u64 m, .int .u64 r] w fun z w' => z = .returned (.agg #[.int .u64 (expI Q P G r), .int .u64 (prodI P [m, expI Q P y r])]) ∧ Same w w' := by
  obtain ⟨W, bx, by_, eW, eb, ey, hB, hp⟩ := par_pair w P Q G H ra rn rc
  have EW := Lib.hid eW
  have EB := Lib.hid eb
  have EY := Lib.hid ey
  have HNE := Lib.hid (show by_ ≠ bx ∧ w.heap.size ≤ by_ by omega)
  have hB0 : PairS w bx by_ P Q G H ra rn rc W := ⟨hB, _, _, hp⟩
  have HB0 := Lib.hid (hB0.same (drew_same W))
  clear eW eb ey hB hp hB0
  go_enter Try.func18, Try.ntmps18
  go_upto_region 1 with fail
  rw [EW.out, EB.out, EY.out]
  refine wp_region_held_drew (S := fun w' => PairS w bx by_ P Q G H ra rn rc w') (by kernel_rfl) HB0.out (fun hHeld => ?_)
  refine wpAnyH_take (i := 0) (v := ?_) rfl (by kernel_rfl) (by kernel_rfl) (by kernel_rfl) (fun _ _ _ h => h) (Or.inl ⟨by rfl, ?_⟩) (by assumption) ?_
  rotate_left
  · intro w hSw; (try dsimp only at hSw); go_simp; try with_reducible rfl
  try simp only [Act.put, List.getElem_toArray, List.getElem_cons_succ, List.getElem_cons_zero, List.setIfInBounds_toArray, List.set_cons_zero, List.set_cons_succ]
  refine wpAnyH_take (i := 1) (v := ?_) rfl (by kernel_rfl) (by kernel_rfl) (by kernel_rfl) (fun _ _ _ h => h) (Or.inl ⟨by rfl, ?_⟩) (by assumption) ?_
  rotate_left
  · intro w hSw; (try dsimp only at hSw); go_simp; try with_reducible rfl
  try simp only [Act.put, List.getElem_toArray, List.getElem_cons_succ, List.getElem_cons_zero, List.setIfInBounds_toArray, List.set_cons_zero, List.set_cons_succ]
  refine wpAnyH_take (i := 3) (v := ?_) rfl (by kernel_rfl) (by kernel_rfl) (by kernel_rfl) (fun _ _ _ h => h) (Or.inl ⟨by rfl, ?_⟩) (by assumption) ?_
  rotate_left
  · intro w hSw; (try dsimp only at hSw); go_simp; try with_reducible rfl
  try simp only [Act.put, List.getElem_toArray, List.getElem_cons_succ, List.getElem_cons_zero, List.setIfInBounds_toArray, List.set_cons_zero, List.set_cons_succ]
  refine wpAnyH_take (i := 4) (v := ?_) rfl (by kernel_rfl) (by kernel_rfl) (by kernel_rfl) (fun _ _ _ h => h) (Or.inl ⟨by rfl, ?_⟩) (by assumption) ?_
  rotate_left
  · intro w hSw; (try dsimp only at hSw); go_simp; try with_reducible rfl
  try simp only [Act.put, List.getElem_toArray, List.getElem_cons_succ, List.getElem_cons_zero, List.setIfInBounds_toArray, List.set_cons_zero, List.set_cons_succ]
  refine wpAnyH_take (i := 5) (v := ?_) rfl (by kernel_rfl) (by kernel_rfl) (by kernel_rfl) (fun _ _ _ h => h) (Or.inl ⟨by rfl, ?_⟩) (by assumption) ?_
  rotate_left
  · intro w hSw; (try dsimp only at hSw); go_simp; try with_reducible rfl
  try simp only [Act.put, List.getElem_toArray, List.getElem_cons_succ, List.getElem_cons_zero, List.setIfInBounds_toArray, List.set_cons_zero, List.set_cons_succ]
  refine wpAnyH_take (i := 6) (v := ?_) rfl (by kernel_rfl) (by kernel_rfl) (by kernel_rfl) (fun _ _ _ h => h) (Or.inl ⟨by rfl, ?_⟩) (by assumption) ?_
  rotate_left
  · intro w hSw; (try dsimp only at hSw); go_simp; try with_reducible rfl
  try simp only [Act.put, List.getElem_toArray, List.getElem_cons_succ, List.getElem_cons_zero, List.setIfInBounds_toArray, List.set_cons_zero, List.set_cons_succ]
  refine wpAnyH_take (i := 7) (v := ?_) rfl (by kernel_rfl) (by kernel_rfl) (by kernel_rfl) (fun _ _ _ h => h) (Or.inl ⟨by rfl, ?_⟩) (by assumption) ?_
  rotate_left
  · intro w hSw; (try dsimp only at hSw); go_simp; try with_reducible rfl
  try simp only [Act.put, List.getElem_toArray, List.getElem_cons_succ, List.getElem_cons_zero, List.setIfInBounds_toArray, List.set_cons_zero, List.set_cons_succ]
  refine wpAnyH_ready (rs := [2]) (by kernel_rfl) (by simp) ?_
  refine AllReadyH.cons rfl (fun K hK => ?_) AllReadyH.nil
  go_simp
  refine (key_any P Q G H ra rn rc r P0 Q0 Q1 G0 r0 r1 _).mono ?_
  rintro e1 w1 ⟨rfl, hT1⟩
  go_wp2_with fail
  refine hK.out _ _ ?_ (fun hHeld => ?_)
  · exact PairS.same (by with_reducible assumption) (by with_reducible assumption)
  clear hK K
  try simp only [Act.put, List.getElem_toArray, List.getElem_cons_succ, List.getElem_cons_zero, List.setIfInBounds_toArray, List.set_cons_zero, List.set_cons_succ]
  refine wpAnyH_ready (rs := [8]) (by kernel_rfl) (by simp) ?_
  refine AllReadyH.cons rfl (fun K hK => ?_) AllReadyH.nil
  go_simp
  refine (exp_any P Q G H ra rn rc y r P0 Q0 Q1 y0 r0 r1 _).mono ?_
  rintro e1 w2 ⟨rfl, hT2⟩
  go_wp2_with fail
  refine hK.out _ _ ?_ (fun hHeld => ?_)
  · exact PairS.same (by with_reducible assumption) (by with_reducible assumption)
  clear hK K
  try simp only [Act.put, List.getElem_toArray, List.getElem_cons_succ, List.getElem_cons_zero, List.setIfInBounds_toArray, List.set_cons_zero, List.set_cons_succ]
  refine wpAnyH_ready (rs := [9]) (by kernel_rfl) (by simp) ?_
  refine AllReadyH.cons rfl (fun K hK => ?_) AllReadyH.nil
  go_simp
  refine hK.out _ _ ?_ (fun hHeld => ?_)
  · exact PairS.same (by with_reducible assumption) ((Same.refl _).alloc _)
  clear hK K
  try simp only [Act.put, List.getElem_toArray, List.getElem_cons_succ, List.getElem_cons_zero, List.setIfInBounds_toArray, List.set_cons_zero, List.set_cons_succ]
  refine wpAnyH_ready (rs := [10]) (by kernel_rfl) (by simp) ?_
  refine AllReadyH.cons rfl (fun K hK => ?_) AllReadyH.nil
  go_simp
  refine (prod_any P Q G H ra rn rc _ 2 2 [m, expI Q P y r] P0 _ (ints_pair _ _ _ _ hm (expI_u _ _ _ _))).mono ?_
  rintro e1 w3 ⟨rfl, hT3⟩
  go_wp2_with fail
  refine hK.out _ _ ?_ (fun hHeld => ?_)
  · exact PairS.same (by with_reducible assumption) (by with_reducible assumption)
  clear hK K
  try simp only [Act.put, List.getElem_toArray, List.getElem_cons_succ, List.getElem_cons_zero, List.setIfInBounds_toArray, List.set_cons_zero, List.set_cons_succ]
  refine wpAnyH_take (i := 11) (v := ?_) rfl (by kernel_rfl) (by kernel_rfl) (by kernel_rfl) (fun _ _ _ h => h) (Or.inl ⟨by rfl, ?_⟩) (by assumption) ?_
  rotate_left
  · intro w hSw; (try dsimp only at hSw); go_simp; try with_reducible rfl
  try simp only [Act.put, List.getElem_toArray, List.getElem_cons_succ, List.getElem_cons_zero, List.setIfInBounds_toArray, List.set_cons_zero, List.set_cons_succ]
  refine wpAnyH_ready (rs := [12]) (by kernel_rfl) (by simp) ?_
  refine AllReadyH.cons rfl (fun K hK => ?_) AllReadyH.nil
  have hSc := hHeld.2
  obtain ⟨u, v, z0, z1, z2, z3⟩ := hSc
  go_simp
  refine hK.out _ _ ?_ (fun hHeld => ?_)
  · exact (hHeld.set0 HNE.out.1 HNE.out.2 _).set1 HNE.out.1 HNE.out.2 _
  clear hK K
  try simp only [Act.put, List.getElem_toArray, List.getElem_cons_succ, List.getElem_cons_zero, List.setIfInBounds_toArray, List.set_cons_zero, List.set_cons_succ]
  refine wpAnyH_done (by kernel_rfl) ?_ _
  have hSc := hHeld.1.2.2.2.2.2
  have hSd := ((PairAt.mk z0 z1 z2 z3).set0 (.int .u64 (expI Q P G r))).set1 (.int .u64 (prodI P [m, expI Q P y r]))
  obtain ⟨q0, q1, q2, q3⟩ := hSd
  clear z0 z1 z2 z3
  go_wp2_with fail
  refine bodyPost_ret (by simp [results, Try.results18, go_sem, q0, q1]; try rfl) rfl ?_
  exact ⟨rfl, hSc⟩
end Go.Proofs.Ytfoncfojljmimaa
