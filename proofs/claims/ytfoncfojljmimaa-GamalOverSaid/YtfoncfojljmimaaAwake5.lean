/- The law's awake: a number sealed for a key and opened. -/
import Derived.Test.YtfoncfojljmimaaRGam
import Derived.Test.YtfoncfojljmimaaW4
import Derived.Test.YtfoncfojljmimaaW5
set_option linter.unusedVariables false
set_option linter.unusedSimpArgs false
namespace Go.Proofs.Ytfoncfojljmimaa
open Go.RowKit NT
/-- what is sealed for a key is opened by its secret -/
theorem open_seal {P Q G : Int} (h : GrpP P Q) (hG : InP P Q G) {m x r : Int} (hm : InP P Q m) (x0 : 0 ≤ x) (r0 : 0 ≤ r) :
    overI P (prodI P [m, expI Q P (expI Q P G x) r]) (prodI P [expI Q P (expI Q P G r) x]) = m := by
  have hy := exp_el h hG x0
  have hu := exp_el h hG r0
  have hs := exp_el h hu x0
  refine over_eq h (prod1_el h hs) (by have := hm.1; omega) hm.2.1 ?_
  have e1 := ((exp_cg h hu x0).trans ((exp_cg h hG r0).pow x.toNat))
  have e2 := ((exp_cg h hy r0).trans ((exp_cg h hG x0).pow r.toNat))
  rw [← Nat.pow_mul] at e1 e2
  rw [Nat.mul_comm] at e1
  refine Cg.trans ?_ (prod2_cg h _ _).symm
  exact ((Cg.refl _ m.toNat).mul ((prod1_cg h _).trans (e1.trans e2.symm)))
theorem in4_36 : InP 2027 1013 36 := ⟨by decide, by decide, powI_num (a := 36) (e := 1013) (n := 2027) 1 (by omega) (by omega) (by kernel_rfl)⟩
theorem u4 : expI 1013 2027 4 11 = 441 := powI_num (a := 4) (e := 11) (n := 2027) 441 (by omega) (by omega) (by kernel_rfl)
theorem small5_any (w : World) : Calls Try.prog 31 #[] w fun z w' => ∃ P Q G H a n c, z = .returned (.agg #[.int .u64 P, .int .u64 Q, .int .u64 G, .int .u64 H, .slice a n c]) ∧ Hid (P = 2027 ∧ Q = 1013 ∧ G = 4) ∧ Same w w' :=
  (small4_any w).mono fun z w' ⟨a, e, _, hs⟩ => ⟨_, _, _, _, _, _, _, e, Lib.hid ⟨rfl, rfl, rfl⟩, hs⟩
set_option maxHeartbeats 3200000 in
theorem awake5 (w : World) : Calls Try.prog 9 #[] w fun e w' => e = .returned (.bool true) ∧ Same w w' := by
  go_enter Try.func9, Try.ntmps9
  go_upto_region 1 with fail
  go_wp2_with fail
  refine (small5_any _).mono ?_
  rintro e1 w0 ⟨P, Q, G, H, ra, rn, rc, rfl, HN, hS0⟩
  have HU : Hid (0 ≤ P ∧ 0 ≤ Q ∧ Q < 18446744073709551616 ∧ 0 ≤ G) := Lib.hid (by obtain ⟨rfl, rfl, rfl⟩ := HN.out; decide)
  have hg : GrpP P Q := by obtain ⟨rfl, rfl, rfl⟩ := HN.out; exact right4.grp
  have hG : InP P Q G := by obtain ⟨rfl, rfl, rfl⟩ := HN.out; exact right4.g
  have hm : InP P Q 36 := by obtain ⟨rfl, rfl, rfl⟩ := HN.out; exact in4_36
  obtain ⟨y, hy⟩ : ∃ y, expI Q P G 7 = y := ⟨_, rfl⟩
  obtain ⟨cu, hcu⟩ : ∃ cu, expI Q P G 11 = cu := ⟨_, rfl⟩
  obtain ⟨cv, hcv⟩ : ∃ cv, prodI P [36, expI Q P y 11] = cv := ⟨_, rfl⟩
  have HC := Lib.hid (show U64 cu ∧ U64 cv by rw [← hcu, ← hcv]; exact ⟨expI_u _ _ _ _, prodI_u _ _⟩)
  have HY0 := Lib.hid (show 0 ≤ y by rw [← hy]; exact (expI_u _ _ _ _).1)
  have HO := Lib.hid (show overI P cv (prodI P [expI Q P cu 7]) = 36 by rw [← hcv, ← hcu, ← hy]; exact open_seal hg hG hm (by decide) (by decide))
  have HNE := Lib.hid (show (cu != 36) = true by rw [← hcu]; obtain ⟨rfl, rfl, rfl⟩ := HN.out; rw [u4]; rfl)
  have HY := Lib.hid hy
  have HCU := Lib.hid hcu
  have HCV := Lib.hid hcv
  clear hg hG hm hy hcu hcv
  go_upto_region 2 with fail
  obtain ⟨W, bx, eW, eb, hS, c0, c1, c2, c3, c4⟩ := par_box w0 P Q G H (.slice ra rn rc)
  obtain ⟨gx, eg⟩ : ∃ gx, bx = gx := ⟨_, rfl⟩
  rw [eg] at eb c0 c1 c2 c3 c4
  rw [eW, eb]
  have hB0 : BoxS w gx P Q G H ra rn rc W := ⟨c0, c1, c2, c3, c4, hS0.trans hS⟩
  have HB0 := Lib.hid (hB0.same (drew_same W))
  clear eW eb eg hS0 hS hB0 c0 c1 c2 c3 c4
  go_cut [2] (fun s2 wx => ∃ dx, s2 = .pointer (some ⟨dx, 0, none⟩) ∧ BoxC w gx dx P Q G H ra rn rc cu cv wx)
  case first =>
    refine wp_region_held_drew (S := fun w' => BoxS w gx P Q G H ra rn rc w') (by kernel_rfl) HB0.out (fun hHeld => ?_)
    obtain ⟨Wd, eWd⟩ : ∃ Wd, W.drew = Wd := ⟨_, rfl⟩
    rw [eWd] at hHeld ⊢
    clear eWd
    refine wpAnyH_take (i := 0) (v := ?_) rfl (by kernel_rfl) (by kernel_rfl) (by kernel_rfl) (fun _ _ _ h => h) (Or.inl ⟨by rfl, ?_⟩) (by assumption) ?_
    rotate_left
    · intro w hSw; (try dsimp only at hSw); go_simp; try with_reducible rfl
    try simp only [Act.put, List.getElem_toArray, List.getElem_cons_succ, List.getElem_cons_zero, List.setIfInBounds_toArray, List.set_cons_zero, List.set_cons_succ]
    refine wpAnyH_take (i := 1) (v := ?_) rfl (by kernel_rfl) (by kernel_rfl) (by kernel_rfl) (fun _ _ _ h => h) (Or.inl ⟨by rfl, ?_⟩) (by assumption) ?_
    rotate_left
    · intro w hSw; (try dsimp only at hSw); go_simp; try with_reducible rfl
    try simp only [Act.put, List.getElem_toArray, List.getElem_cons_succ, List.getElem_cons_zero, List.setIfInBounds_toArray, List.set_cons_zero, List.set_cons_succ]
    refine wpAnyH_ready (rs := [2, 4]) (by kernel_rfl) (by simp) ?_
    refine AllReadyH.cons rfl (fun K hK => ?_) (AllReadyH.cons rfl (fun K hK => ?_) AllReadyH.nil)
    · go_simp
      refine (key_any P Q G H ra rn rc 7 HU.out.1 HU.out.2.1 HU.out.2.2.1 HU.out.2.2.2 (by decide) (by decide) _).mono ?_
      rintro e1 w1 ⟨rfl, hw1⟩
      rw [HY.out]
      go_wp2_with fail
      refine hK.out _ _ ?_ (fun hHeld => ?_)
      · exact BoxS.same (by with_reducible assumption) (by with_reducible assumption)
      clear hK K
      try simp only [Act.put, List.getElem_toArray, List.getElem_cons_succ, List.getElem_cons_zero, List.setIfInBounds_toArray, List.set_cons_zero, List.set_cons_succ]
      refine wpAnyH_ready (rs := [3, 4]) (by kernel_rfl) (by simp) ?_
      refine AllReadyH.cons rfl (fun K hK => ?_) (AllReadyH.cons rfl (fun K hK => ?_) AllReadyH.nil)
      · go_simp
        refine (seal_any P Q G H ra rn rc y 36 11 HU.out.1 HU.out.2.1 HU.out.2.2.1 HU.out.2.2.2 HY0.out ⟨by decide, by decide⟩ (by decide) (by decide) _).mono ?_
        rintro e1 w2 ⟨rfl, hw2⟩
        rw [HCU.out, HCV.out]
        go_wp2_with fail
        refine hK.out _ _ ?_ (fun hHeld => ?_)
        · exact BoxS.same (by with_reducible assumption) (by with_reducible assumption)
        clear hK K
        try simp only [Act.put, List.getElem_toArray, List.getElem_cons_succ, List.getElem_cons_zero, List.setIfInBounds_toArray, List.set_cons_zero, List.set_cons_succ]
        refine wpAnyH_ready (rs := [4]) (by kernel_rfl) (by simp) ?_
        refine AllReadyH.cons rfl (fun K hK => ?_) AllReadyH.nil
        go_simp
        have hA := (Same.refl w2).alloc (.cells #[.int .u64 0, .int .u64 0] 27)
        have hP := PairAt.new w2 27 (.int .u64 0) (.int .u64 0)
        have hne : w2.heap.size ≠ gx := World.new_ne w2 ⟨gx, 0, none⟩ (And.left (by assumption : BoxS w gx P Q G H ra rn rc w2))
        have hge : w.heap.size ≤ w2.heap.size := (BoxS.base (by assumption : BoxS w gx P Q G H ra rn rc w2)).size
        obtain ⟨wA, eA⟩ : ∃ wA, w2.alloc (.cells #[.int .u64 0, .int .u64 0] 27) = wA := ⟨_, rfl⟩
        obtain ⟨dx, eD⟩ : ∃ dx, w2.heap.size = dx := ⟨_, rfl⟩
        rw [eA] at hA hP ⊢
        rw [eD] at hP hne hge ⊢
        clear eA eD
        refine hK.out _ _ ?_ (fun hHeld => ?_)
        · exact BoxS.same (by with_reducible assumption) (by with_reducible assumption)
        clear hK K
        try simp only [Act.put, List.getElem_toArray, List.getElem_cons_succ, List.getElem_cons_zero, List.setIfInBounds_toArray, List.set_cons_zero, List.set_cons_succ]
        refine wpAnyH_ready (rs := [5]) (by kernel_rfl) (by simp) ?_
        refine AllReadyH.cons rfl (fun K hK => ?_) AllReadyH.nil
        obtain ⟨d0, d1, d2, d3⟩ := hP
        have hP2 := (PairAt.mk d0 d1 d2 d3).put (.int .u64 cu) (.int .u64 cv)
        go_simp
        refine hK.out _ _ ?_ (fun hHeld => ?_)
        · exact (hHeld.set hne hge _).set hne hge _
        clear hK K
        try simp only [Act.put, List.getElem_toArray, List.getElem_cons_succ, List.getElem_cons_zero, List.setIfInBounds_toArray, List.set_cons_zero, List.set_cons_succ]
        refine wpAnyH_done (by kernel_rfl) ?_ _
        go_wp2_with fail
        go_meet
        exact ⟨dx, rfl, hP2.u, hP2.v, hHeld⟩
      · go_simp
        have hA := (Same.refl w1).alloc (.cells #[.int .u64 0, .int .u64 0] 27)
        have hP := PairAt.new w1 27 (.int .u64 0) (.int .u64 0)
        have hne : w1.heap.size ≠ gx := World.new_ne w1 ⟨gx, 0, none⟩ (And.left (by assumption : BoxS w gx P Q G H ra rn rc w1))
        have hge : w.heap.size ≤ w1.heap.size := (BoxS.base (by assumption : BoxS w gx P Q G H ra rn rc w1)).size
        obtain ⟨wA, eA⟩ : ∃ wA, w1.alloc (.cells #[.int .u64 0, .int .u64 0] 27) = wA := ⟨_, rfl⟩
        obtain ⟨dx, eD⟩ : ∃ dx, w1.heap.size = dx := ⟨_, rfl⟩
        rw [eA] at hA hP ⊢
        rw [eD] at hP hne hge ⊢
        clear eA eD
        refine hK.out _ _ ?_ (fun hHeld => ?_)
        · exact BoxS.same (by with_reducible assumption) (by with_reducible assumption)
        clear hK K
        try simp only [Act.put, List.getElem_toArray, List.getElem_cons_succ, List.getElem_cons_zero, List.setIfInBounds_toArray, List.set_cons_zero, List.set_cons_succ]
        refine wpAnyH_ready (rs := [3]) (by kernel_rfl) (by simp) ?_
        refine AllReadyH.cons rfl (fun K hK => ?_) AllReadyH.nil
        go_simp
        refine (seal_any P Q G H ra rn rc y 36 11 HU.out.1 HU.out.2.1 HU.out.2.2.1 HU.out.2.2.2 HY0.out ⟨by decide, by decide⟩ (by decide) (by decide) _).mono ?_
        rintro e1 w2 ⟨rfl, hw2⟩
        rw [HCU.out, HCV.out]
        go_wp2_with fail
        refine hK.out _ _ ?_ (fun hHeld => ?_)
        · exact BoxS.same (by with_reducible assumption) (by with_reducible assumption)
        clear hK K
        try simp only [Act.put, List.getElem_toArray, List.getElem_cons_succ, List.getElem_cons_zero, List.setIfInBounds_toArray, List.set_cons_zero, List.set_cons_succ]
        refine wpAnyH_ready (rs := [5]) (by kernel_rfl) (by simp) ?_
        refine AllReadyH.cons rfl (fun K hK => ?_) AllReadyH.nil
        replace hP := hP.same hw2
        obtain ⟨d0, d1, d2, d3⟩ := hP
        have hP2 := (PairAt.mk d0 d1 d2 d3).put (.int .u64 cu) (.int .u64 cv)
        go_simp
        refine hK.out _ _ ?_ (fun hHeld => ?_)
        · exact (hHeld.set hne hge _).set hne hge _
        clear hK K
        try simp only [Act.put, List.getElem_toArray, List.getElem_cons_succ, List.getElem_cons_zero, List.setIfInBounds_toArray, List.set_cons_zero, List.set_cons_succ]
        refine wpAnyH_done (by kernel_rfl) ?_ _
        go_wp2_with fail
        go_meet
        exact ⟨dx, rfl, hP2.u, hP2.v, hHeld⟩
    · go_simp
      have hA := (Same.refl Wd).alloc (.cells #[.int .u64 0, .int .u64 0] 27)
      have hP := PairAt.new Wd 27 (.int .u64 0) (.int .u64 0)
      have hne : Wd.heap.size ≠ gx := World.new_ne Wd ⟨gx, 0, none⟩ (And.left (by assumption : BoxS w gx P Q G H ra rn rc Wd))
      have hge : w.heap.size ≤ Wd.heap.size := (BoxS.base (by assumption : BoxS w gx P Q G H ra rn rc Wd)).size
      obtain ⟨wA, eA⟩ : ∃ wA, Wd.alloc (.cells #[.int .u64 0, .int .u64 0] 27) = wA := ⟨_, rfl⟩
      obtain ⟨dx, eD⟩ : ∃ dx, Wd.heap.size = dx := ⟨_, rfl⟩
      rw [eA] at hA hP ⊢
      rw [eD] at hP hne hge ⊢
      clear eA eD
      refine hK.out _ _ ?_ (fun hHeld => ?_)
      · exact BoxS.same (by with_reducible assumption) (by with_reducible assumption)
      clear hK K
      try simp only [Act.put, List.getElem_toArray, List.getElem_cons_succ, List.getElem_cons_zero, List.setIfInBounds_toArray, List.set_cons_zero, List.set_cons_succ]
      refine wpAnyH_ready (rs := [2]) (by kernel_rfl) (by simp) ?_
      refine AllReadyH.cons rfl (fun K hK => ?_) AllReadyH.nil
      go_simp
      refine (key_any P Q G H ra rn rc 7 HU.out.1 HU.out.2.1 HU.out.2.2.1 HU.out.2.2.2 (by decide) (by decide) _).mono ?_
      rintro e1 w1 ⟨rfl, hw1⟩
      rw [HY.out]
      go_wp2_with fail
      refine hK.out _ _ ?_ (fun hHeld => ?_)
      · exact BoxS.same (by with_reducible assumption) (by with_reducible assumption)
      clear hK K
      try simp only [Act.put, List.getElem_toArray, List.getElem_cons_succ, List.getElem_cons_zero, List.setIfInBounds_toArray, List.set_cons_zero, List.set_cons_succ]
      refine wpAnyH_ready (rs := [3]) (by kernel_rfl) (by simp) ?_
      refine AllReadyH.cons rfl (fun K hK => ?_) AllReadyH.nil
      go_simp
      refine (seal_any P Q G H ra rn rc y 36 11 HU.out.1 HU.out.2.1 HU.out.2.2.1 HU.out.2.2.2 HY0.out ⟨by decide, by decide⟩ (by decide) (by decide) _).mono ?_
      rintro e1 w2 ⟨rfl, hw2⟩
      rw [HCU.out, HCV.out]
      go_wp2_with fail
      refine hK.out _ _ ?_ (fun hHeld => ?_)
      · exact BoxS.same (by with_reducible assumption) (by with_reducible assumption)
      clear hK K
      try simp only [Act.put, List.getElem_toArray, List.getElem_cons_succ, List.getElem_cons_zero, List.setIfInBounds_toArray, List.set_cons_zero, List.set_cons_succ]
      refine wpAnyH_ready (rs := [5]) (by kernel_rfl) (by simp) ?_
      refine AllReadyH.cons rfl (fun K hK => ?_) AllReadyH.nil
      replace hP := hP.same hw1
      replace hP := hP.same hw2
      obtain ⟨d0, d1, d2, d3⟩ := hP
      have hP2 := (PairAt.mk d0 d1 d2 d3).put (.int .u64 cu) (.int .u64 cv)
      go_simp
      refine hK.out _ _ ?_ (fun hHeld => ?_)
      · exact (hHeld.set hne hge _).set hne hge _
      clear hK K
      try simp only [Act.put, List.getElem_toArray, List.getElem_cons_succ, List.getElem_cons_zero, List.setIfInBounds_toArray, List.set_cons_zero, List.set_cons_succ]
      refine wpAnyH_done (by kernel_rfl) ?_ _
      go_wp2_with fail
      go_meet
      exact ⟨dx, rfl, hP2.u, hP2.v, hHeld⟩
  case rest =>
    obtain ⟨dx, e2, hD⟩ := hcut
    subst e2
    have HD0 := Lib.hid (hD.same (drew_same wc))
    have hne := HNE.out
    clear hD
    go_upto_region 3 with fail
    refine wp_region_held_drew (S := fun w' => BoxC w gx dx P Q G H ra rn rc cu cv w') (by kernel_rfl) HD0.out (fun hHeld => ?_)
    refine wpAnyH_take (i := 0) (v := ?_) rfl (by kernel_rfl) (by kernel_rfl) (by kernel_rfl) (fun _ _ _ h => h) (Or.inl ⟨by rfl, ?_⟩) (by assumption) ?_
    rotate_left
    · intro w hSw; (try dsimp only at hSw); go_simp; try with_reducible rfl
    try simp only [Act.put, List.getElem_toArray, List.getElem_cons_succ, List.getElem_cons_zero, List.setIfInBounds_toArray, List.set_cons_zero, List.set_cons_succ]
    refine wpAnyH_take (i := 1) (v := ?_) rfl (by kernel_rfl) (by kernel_rfl) (by kernel_rfl) (fun _ _ _ h => h) (Or.inl ⟨by rfl, ?_⟩) (by assumption) ?_
    rotate_left
    · intro w hSw; (try dsimp only at hSw); go_simp; try with_reducible rfl
    try simp only [Act.put, List.getElem_toArray, List.getElem_cons_succ, List.getElem_cons_zero, List.setIfInBounds_toArray, List.set_cons_zero, List.set_cons_succ]
    refine wpAnyH_take (i := 2) (v := ?_) rfl (by kernel_rfl) (by kernel_rfl) (by kernel_rfl) (fun _ _ _ h => h) (Or.inl ⟨by rfl, ?_⟩) (by assumption) ?_
    rotate_left
    · intro w hSw; (try dsimp only at hSw); go_simp; try with_reducible rfl
    try simp only [Act.put, List.getElem_toArray, List.getElem_cons_succ, List.getElem_cons_zero, List.setIfInBounds_toArray, List.set_cons_zero, List.set_cons_succ]
    refine wpAnyH_take (i := 3) (v := ?_) rfl (by kernel_rfl) (by kernel_rfl) (by kernel_rfl) (fun _ _ _ h => h) (Or.inl ⟨by rfl, ?_⟩) (by assumption) ?_
    rotate_left
    · intro w hSw; (try dsimp only at hSw); go_simp; try with_reducible rfl
    try simp only [Act.put, List.getElem_toArray, List.getElem_cons_succ, List.getElem_cons_zero, List.setIfInBounds_toArray, List.set_cons_zero, List.set_cons_succ]
    refine wpAnyH_take (i := 4) (v := ?_) rfl (by kernel_rfl) (by kernel_rfl) (by kernel_rfl) (fun _ _ _ h => h) (Or.inl ⟨by rfl, ?_⟩) (by assumption) ?_
    rotate_left
    · intro w hSw; (try dsimp only at hSw); go_simp; try with_reducible rfl
    try simp only [Act.put, List.getElem_toArray, List.getElem_cons_succ, List.getElem_cons_zero, List.setIfInBounds_toArray, List.set_cons_zero, List.set_cons_succ]
    refine wpAnyH_take (i := 5) (v := ?_) rfl (by kernel_rfl) (by kernel_rfl) (by kernel_rfl) (fun _ _ _ h => h) (Or.inl ⟨by rfl, ?_⟩) (by assumption) ?_
    rotate_left
    · intro w hSw; (try dsimp only at hSw); go_simp; try with_reducible rfl
    try simp only [Act.put, List.getElem_toArray, List.getElem_cons_succ, List.getElem_cons_zero, List.setIfInBounds_toArray, List.set_cons_zero, List.set_cons_succ]
    refine wpAnyH_take (i := 6) (v := ?_) rfl (by kernel_rfl) (by kernel_rfl) (by kernel_rfl) (fun _ _ _ h => h) (Or.inl ⟨by rfl, ?_⟩) (by assumption) ?_
    rotate_left
    · intro w hSw; (try dsimp only at hSw); go_simp; try with_reducible rfl
    try simp only [Act.put, List.getElem_toArray, List.getElem_cons_succ, List.getElem_cons_zero, List.setIfInBounds_toArray, List.set_cons_zero, List.set_cons_succ]
    refine wpAnyH_take (i := 7) (v := ?_) rfl (by kernel_rfl) (by kernel_rfl) (by kernel_rfl) (fun _ _ _ h => h) (Or.inl ⟨by rfl, ?_⟩) (by assumption) ?_
    rotate_left
    · intro w hSw; (try dsimp only at hSw); go_simp; try with_reducible rfl
    try simp only [Act.put, List.getElem_toArray, List.getElem_cons_succ, List.getElem_cons_zero, List.setIfInBounds_toArray, List.set_cons_zero, List.set_cons_succ]
    refine wpAnyH_ready (rs := [8]) (by kernel_rfl) (by simp) ?_
    refine AllReadyH.cons rfl (fun K hK => ?_) AllReadyH.nil
    go_simp
    refine (share_any P Q G H ra rn rc 7 cu cv HU.out.1 HU.out.2.1 HU.out.2.2.1 HC.out.1.1 (by decide) (by decide) _).mono ?_
    rintro e1 w1 ⟨rfl, hT1⟩
    go_wp2_with fail
    refine hK.out _ _ ?_ (fun hHeld => ?_)
    · exact BoxC.same (by with_reducible assumption) (by with_reducible assumption)
    clear hK K
    try simp only [Act.put, List.getElem_toArray, List.getElem_cons_succ, List.getElem_cons_zero, List.setIfInBounds_toArray, List.set_cons_zero, List.set_cons_succ]
    refine wpAnyH_ready (rs := [9]) (by kernel_rfl) (by simp) ?_
    refine AllReadyH.cons rfl (fun K hK => ?_) AllReadyH.nil
    go_simp
    refine hK.out _ _ ?_ (fun hHeld => ?_)
    · exact BoxC.same (by with_reducible assumption) ((Same.refl _).alloc _)
    clear hK K
    try simp only [Act.put, List.getElem_toArray, List.getElem_cons_succ, List.getElem_cons_zero, List.setIfInBounds_toArray, List.set_cons_zero, List.set_cons_succ]
    refine wpAnyH_ready (rs := [10]) (by kernel_rfl) (by simp) ?_
    refine AllReadyH.cons rfl (fun K hK => ?_) AllReadyH.nil
    go_simp
    refine (open_any P Q G H ra rn rc cu cv _ 1 1 [expI Q P cu 7] HU.out.1 HC.out.2.1 _ (ints_one _ _ _ (expI_u _ _ _ _))).mono ?_
    rintro e1 w2 ⟨rfl, hT2⟩
    rw [HO.out]
    go_wp2_with fail
    refine hK.out _ _ ?_ (fun hHeld => ?_)
    · exact BoxC.same (by with_reducible assumption) (by with_reducible assumption)
    clear hK K
    try simp only [Act.put, List.getElem_toArray, List.getElem_cons_succ, List.getElem_cons_zero, List.setIfInBounds_toArray, List.set_cons_zero, List.set_cons_succ]
    refine wpAnyH_take (i := 11) (v := ?_) rfl (by kernel_rfl) (by kernel_rfl) (by kernel_rfl) (fun _ _ _ h => h) (Or.inl ⟨by rfl, ?_⟩) (by assumption) ?_
    rotate_left
    · intro w hSw; (try dsimp only at hSw); go_simp; try with_reducible rfl
    try simp only [Act.put, List.getElem_toArray, List.getElem_cons_succ, List.getElem_cons_zero, List.setIfInBounds_toArray, List.set_cons_zero, List.set_cons_succ]
    refine wpAnyH_take (i := 12) (v := ?_) rfl (by kernel_rfl) (by kernel_rfl) (by kernel_rfl) (fun _ _ _ h => h) (Or.inl ⟨by rfl, ?_⟩) (by assumption) ?_
    rotate_left
    · intro w hSw; (try dsimp only at hSw); go_simp; try with_reducible rfl
    try simp only [Act.put, List.getElem_toArray, List.getElem_cons_succ, List.getElem_cons_zero, List.setIfInBounds_toArray, List.set_cons_zero, List.set_cons_succ]
    refine wpAnyH_take (i := 13) (v := ?_) rfl (by kernel_rfl) (by kernel_rfl) (by kernel_rfl) (fun _ _ _ h => h) (Or.inl ⟨by rfl, ?_⟩) (by assumption) ?_
    rotate_left
    · intro w hSw; (try dsimp only at hSw); go_simp; try with_reducible rfl
    try simp only [Act.put, List.getElem_toArray, List.getElem_cons_succ, List.getElem_cons_zero, List.setIfInBounds_toArray, List.set_cons_zero, List.set_cons_succ]
    refine wpAnyH_done (by kernel_rfl) ?_ _
    go_wp2_with fail
    go_ret
    exact ⟨rfl, hHeld.2.2.base⟩
end Go.Proofs.Ytfoncfojljmimaa
