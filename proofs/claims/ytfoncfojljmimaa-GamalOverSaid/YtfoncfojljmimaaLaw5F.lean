/- The walk of GamalOver. -/
import Derived.Test.YtfoncfojljmimaaAwake5
import Derived.Test.YtfoncfojljmimaaW6
import Derived.Test.YtfoncfojljmimaaGamL2
import Derived.Test.YtfoncfojljmimaaOwnI
import Derived.Test.YtfoncfojljmimaaLaw5EP
set_option linter.unusedVariables false
set_option linter.unusedSimpArgs false
namespace Go.Proofs.Ytfoncfojljmimaa
open Go.RowKit NT
abbrev OverS (W0 : World) (gx lx tx : Nat) (P Q G H : Int) (ra : Option Addr) (rn rc : Nat) (m x r : Int) (u v : Value) (w : World) : Prop :=
  w.cell? ⟨tx, 0, none⟩ = some u ∧ w.cell? ⟨tx, 1, none⟩ = some v ∧ w.cell? ⟨lx, 0, none⟩ = some (.int .u64 m) ∧ w.cell? ⟨lx, 1, none⟩ = some (.int .u64 x) ∧ w.cell? ⟨lx, 2, none⟩ = some (.int .u64 r) ∧ BoxS W0 gx P Q G H ra rn rc w
theorem OverS.same {W0 w w' : World} {gx lx tx : Nat} {P Q G H : Int} {ra : Option Addr} {rn rc : Nat} {m x r : Int} {u v : Value} (h : OverS W0 gx lx tx P Q G H ra rn rc m x r u v w) (hs : Same w w') : OverS W0 gx lx tx P Q G H ra rn rc m x r u v w' :=
  ⟨same_cell hs h.1, same_cell hs h.2.1, same_cell hs h.2.2.1, same_cell hs h.2.2.2.1, same_cell hs h.2.2.2.2.1, h.2.2.2.2.2.same hs⟩
theorem par_over (w : World) (P Q G H : Int) (ra : Option Addr) (rn rc : Nat) (m x r : Int) (u v : Value) : ∃ W gx lx tx, ((w.alloc (.cells #[.int .u64 P, .int .u64 Q, .int .u64 G, .int .u64 H, .slice ra rn rc] 25)).alloc (.cells #[.int .u64 m, .int .u64 x, .int .u64 r] 43)).alloc (.cells #[u, v] 46) = W ∧ w.heap.size = gx ∧ gx + 1 = lx ∧ lx + 1 = tx ∧
    OverS w gx lx tx P Q G H ra rn rc m x r u v W := by
  obtain ⟨W1, gx, e1, e2, hS, c0, c1, c2, c3, c4⟩ := par_box w P Q G H (.slice ra rn rc)
  have hz : W1.heap.size = gx + 1 := by rw [← e1, ← e2]; simp
  obtain ⟨W2, e3⟩ : ∃ W2, W1.alloc (.cells #[.int .u64 m, .int .u64 x, .int .u64 r] 43) = W2 := ⟨_, rfl⟩
  have hS1 : Same W1 W2 := by rw [← e3]; exact (Same.refl W1).alloc _
  have hz2 : W2.heap.size = gx + 1 + 1 := by rw [← e3, ← hz]; simp
  have l0 : W2.cell? ⟨gx + 1, 0, none⟩ = some (.int .u64 m) := by rw [← e3, ← hz]; simp [World.cell?_alloc_new]
  have l1 : W2.cell? ⟨gx + 1, 1, none⟩ = some (.int .u64 x) := by rw [← e3, ← hz]; simp [World.cell?_alloc_new]
  have l2 : W2.cell? ⟨gx + 1, 2, none⟩ = some (.int .u64 r) := by rw [← e3, ← hz]; simp [World.cell?_alloc_new]
  have hS2 : Same W2 (W2.alloc (.cells #[u, v] 46)) := (Same.refl W2).alloc _
  have hS3 := hS1.trans hS2
  exact ⟨_, gx, gx + 1, gx + 1 + 1, by rw [e1, e3], e2, rfl, rfl, by rw [← hz2]; simp [World.cell?_alloc_new], by rw [← hz2]; simp [World.cell?_alloc_new], same_cell hS2 l0, same_cell hS2 l1, same_cell hS2 l2, same_cell hS3 c0, same_cell hS3 c1, same_cell hS3 c2, same_cell hS3 c3, same_cell hS3 c4, hS.trans hS3⟩
set_option maxRecDepth 100000 in
set_option maxHeartbeats 6400000 in
theorem lawOver (P Q G H : Int) (ra : Option Addr) (rn rc : Nat) (rs : List RowD) (m x r : Int) (a b : Option Addr) (n ca mm cb : Nat) (xs ys : List Int) (hP : U64 P) (hQ : U64 Q) (hG : U64 G) (hH : U64 H) (hm : U64 m) (hx1 : U64 x) (hr : U64 r) (w : World) (h : RowsAt w ra rn rs) (hx : IntsAt w a n xs) (hy : IntsAt w b mm ys) :
    Calls Try.prog 8 #[.agg #[.int .u64 P, .int .u64 Q, .int .u64 G, .int .u64 H, .slice ra rn rc], .agg #[.int .u64 m, .int .u64 x, .int .u64 r], .agg #[.slice a n ca, .slice b mm cb]] w fun e w' => e = .returned (.bool true) ∧ Same w w' := by
  obtain ⟨W, gx, lx, tx, eW, eg, el, et, hB⟩ := par_over w P Q G H ra rn rc m x r (.slice a n ca) (.slice b mm cb)
  have EW := Lib.hid eW
  have EG := Lib.hid eg
  have EL := Lib.hid el
  have ET := Lib.hid et
  have H1 := Lib.hid h
  have HX := Lib.hid hx
  have HY := Lib.hid hy
  have HLX := Lib.hid hx.len
  have HLY := Lib.hid hy.len
  have HSX := Lib.hid hx.small
  have HSY := Lib.hid hy.small
  have HU := Lib.hid (And.intro hP (And.intro hQ (And.intro hG hH)))
  have HM := Lib.hid (And.intro hm (And.intro hx1 hr))
  clear eW eg el et h hx hy hP hQ hG hH hm hx1 hr
  go_enter Try.func8, Try.ntmps8
  go_upto_region 1 with fail
  rw [EW.out, EG.out, EL.out, ET.out]
  go_wp2_with fail
  refine (awake5 _).mono ?_
  rintro e1 w0 ⟨rfl, hT⟩
  replace hB := OverS.same hB hT
  clear hT
  go_upto_region 3 with fail
  go_region_held3 (fun w' => OverS w gx lx tx P Q G H ra rn rc m x r (.slice a n ca) (.slice b mm cb) w')
    (first
      | (with_reducible refine OverS.same (by assumption) (drew_same _))
      | assumption
      | go_keep)
    (fail)
  rename_i hHeld
  obtain ⟨w1, e2⟩ : ∃ w1, w0.drew = w1 := ⟨_, rfl⟩
  rw [e2] at hHeld ⊢
  clear e2 hB
  go_upto_region 4 with fail
  go_region_held3 (fun w' => OverS w gx lx tx P Q G H ra rn rc m x r (.slice a n ca) (.slice b mm cb) w')
    (first
      | (with_reducible refine OverS.same (by assumption) (drew_same _))
      | assumption
      | go_keep)
    (fail)
  rename_i hHeld
  obtain ⟨w2, e2⟩ : ∃ w2, w1.drew = w2 := ⟨_, rfl⟩
  rw [e2] at hHeld ⊢
  have HB := Lib.hid hHeld.2.2.2.2.2
  clear e2 hHeld
  obtain ⟨b0, b1, b2, b3, b4, hS⟩ := HB.out
  go_wp2_with fail
  refine (group5_any P Q G H ra rn rc rs HU.out.1 HU.out.2.1 HU.out.2.2.1 HU.out.2.2.2 _ (H1.out.same hS)).mono ?_
  rintro e1 w3 ⟨rfl, hT⟩
  by_cases hg : GoodP P Q G H rs
  case neg =>
    rw [goodB_no hg]
    clear hg
    go_wp2_with fail
    go_ret
    exact ⟨rfl, hS.trans hT⟩
  rw [goodB_yes hg]
  have HR := Lib.hid hg.2
  replace HB := Lib.hid (BoxS.same HB.out hT)
  clear hg b0 b1 b2 b3 b4 hS hT
  obtain ⟨b0, b1, b2, b3, b4, hS⟩ := HB.out
  go_wp2_with fail
  refine (all_any P Q G H ra rn rc _ 1 1 [m] HU.out.1.1 HU.out.2.1.1 HU.out.2.1.2 _ (ints_one _ _ _ HM.out.1)).mono ?_
  rintro e1 w4 ⟨rfl, hT⟩
  by_cases ha : AllE P Q [m]
  case neg =>
    rw [allB_no ha]
    clear ha
    go_wp2_with fail
    go_ret
    exact ⟨rfl, hS.trans (((Same.refl _).alloc _).trans hT)⟩
  rw [allB_yes ha]
  have HE := Lib.hid (show InP P Q m from ha m (by simp))
  replace HB := Lib.hid (BoxS.same HB.out (((Same.refl _).alloc _).trans hT))
  clear ha b0 b1 b2 b3 b4 hS hT
  obtain ⟨b0, b1, b2, b3, b4, hS⟩ := HB.out
  by_cases n8 : 8 < n
  · have d1 : decide ((8 : Int) < n) = true := decide_eq_true (by omega)
    go_wp2_with fail
    go_ret
    exact ⟨rfl, hS⟩
  have d1 : decide ((8 : Int) < n) = false := decide_eq_false (by omega)
  obtain ⟨i0, hi, hz0, hz1, hz2⟩ := info_parts info_u64
  go_wp2_with fail
  go_loopw [12, 49] (fun s9 s52 wr => ∃ k : Nat, s52 = .int .i64 k ∧ k ≤ n ∧ OwnI wr w4.heap.size s9 (partsI P Q G (xs.take k)) ∧ Same w4 wr) (fun _ s52 _ => n - (intOf s52).toNat)
  case atStart => exact ⟨0, rfl, by omega, OwnI.nil _ _, Same.refl _⟩
  case round =>
    obtain ⟨k, rfl, hk, hown, hD⟩ := hrel
    by_cases hlt : k < n
    · obtain ⟨xb, xo, hxa, hxc⟩ := (HX.out.same (hS.trans hD)).cells (by omega)
      have hc := hxc k hlt
      subst hxa
      have hz := HX.out.bd k
      obtain ⟨z, ez⟩ : ∃ z, xs.getD k 0 = z := ⟨_, rfl⟩
      have HZ := Lib.hid ez
      rw [ez] at hc hz
      have k0 := same_cell hD b0
      have k1 := same_cell hD b1
      have k2 := same_cell hD b2
      have k3 := same_cell hD b3
      have k4 := same_cell hD b4
      clear hxc ez b0 b1 b2 b3 b4
      have hl1 : (partsI P Q G (xs.take k)).length = k := by rw [partsI_len, List.length_take, HLX.out]; omega
      go_wp2_with fail
      refine (key_any P Q G H ra rn rc z HU.out.1.1 HU.out.2.1.1 HU.out.2.1.2 HU.out.2.2.1.1 hz.1 hz.2 _).mono ?_
      rintro e1 w5 ⟨rfl, hT⟩
      have hown1 := hown.same hT
      have hD1 := hD.trans hT
      have hyu := expI_u Q P G z
      have HN := Lib.hid (show partsI P Q G (xs.take (k + 1)) = partsI P Q G (xs.take k) ++ [expI Q P G z] by rw [take_snoc (by rw [HLX.out]; exact hlt), partsI_snoc, HZ.out])
      obtain ⟨y, ey⟩ : ∃ y, expI Q P G z = y := ⟨_, rfl⟩
      rw [ey] at hyu HN ⊢
      clear ey hown hD hc k0 k1 k2 k3 k4 hT
      go_wp2_with (first
        | (at_builtin; refine wpList_append_own _ rfl _ _ 34 rfl w4.heap.size 22 i0 (.int .u64 0) 1 8 Try.underlying34 hi hz0 hz1 hz2 rfl (by decide) _ _ _ rfl (hown1.own.alloc _) ⟨w5.heap.size, 0, none⟩ 1 1 [.int .u64 y] rfl rfl (one_new _ _ _) (one_cell _) (by rw [hl1]; unfold maxLen; omega) (by rw [hl1]; omega) (by have := hD1.size; simp; omega) ?_; intro v' w6 hown' hgrow _))
      go_roundw
      case rel => exact ⟨k + 1, by go_num, by omega, by rw [HN.out]; exact OwnI.push hown1.u hyu (by rw [hl1]; omega) hown', same_grown hD1 hown1 hgrow⟩
      case measure => simp [intOf]; omega
    · obtain rfl : k = n := by omega
      have hB5 : BoxS w gx P Q G H ra rn rc wr := BoxS.same HB.out hD
      rw [List.take_of_length_le (by rw [HLX.out]; exact Nat.le_refl _)] at hown
      obtain ⟨ka, kn, kc, rfl, hki⟩ := hown.ints
      have HKI := Lib.hid hki
      have HPE := Lib.hid (partsI_el HR.out.grp HR.out.g (getD_nonneg HX.out))
      have hB5h := Lib.hid hB5
      clear hki hown hD b0 b1 b2 b3 b4 hS
      obtain ⟨y, ey⟩ : ∃ y, prodI P (partsI P Q G xs) = y := ⟨_, rfl⟩
      have HYE := Lib.hid (show InP P Q y by rw [← ey]; exact prod_el HR.out.grp HPE.out)
      have HYU := Lib.hid (show U64 y by rw [← ey]; exact prodI_u _ _)
      have HEY := Lib.hid ey
      obtain ⟨tu, etu⟩ : ∃ k, expI Q P G r = k := ⟨_, rfl⟩
      obtain ⟨tv, etv⟩ : ∃ k, prodI P [m, expI Q P y r] = k := ⟨_, rfl⟩
      have HCR := Lib.hid (show CrossP P Q G (expI Q P G x) y m tu 1 tv r.toNat [] 0 by rw [← etu, ← etv]; exact CrossP.first HR.out.grp HR.out.g HYE.out HE.out HM.out.2.2.1)
      have HTE := Lib.hid (show InP P Q tu by rw [← etu]; exact exp_el HR.out.grp HR.out.g HM.out.2.2.1)
      have HTUU := Lib.hid (show U64 tu by rw [← etu]; exact expI_u _ _ _ _)
      have HTU := Lib.hid etu
      have HTV := Lib.hid etv
      have HN8 := Lib.hid n8
      have HB6 := Lib.hid (BoxS.same hB5h.out (drew_same wr))
      clear etu etv ey n8 d1 hB5 hB5h
      go_upto_region 13 with fail
      go_cut [15] (fun s15 wx => ∃ tx, s15 = .pointer (some ⟨tx, 0, none⟩) ∧ tx ≠ gx ∧ w.heap.size ≤ tx ∧ ThreeAt wx tx (.int .u64 tu) (.int .u64 1) (.int .u64 tv) ∧ BoxS w gx P Q G H ra rn rc wx)
      case first =>
        have hki := HKI.out.same (drew_same wr)
        refine wp_region_held_drew (S := fun w' => BoxS w gx P Q G H ra rn rc w') (by kernel_rfl) HB6.out (fun hHeld => ?_)
        obtain ⟨Wd, eWd⟩ : ∃ Wd, wr.drew = Wd := ⟨_, rfl⟩
        rw [eWd] at hHeld hki ⊢
        clear eWd
        refine wpAnyH_take (i := 0) (v := ?_) rfl (by kernel_rfl) (by kernel_rfl) (by kernel_rfl) (fun _ _ _ h => h) (Or.inl ⟨by rfl, ?_⟩) (by assumption) ?_
        rotate_left
        · intro w hSw; (try dsimp only at hSw); go_simp; try with_reducible rfl
        try simp only [Act.put, List.getElem_toArray, List.getElem_cons_succ, List.getElem_cons_zero, List.setIfInBounds_toArray, List.set_cons_zero, List.set_cons_succ]
        refine wpAnyH_take (i := 1) (v := ?_) rfl (by kernel_rfl) (by kernel_rfl) (by kernel_rfl) (fun _ _ _ h => h) (Or.inl ⟨by rfl, ?_⟩) (by assumption) ?_
        rotate_left
        · intro w hSw; (try dsimp only at hSw); go_simp; try with_reducible rfl
        try simp only [Act.put, List.getElem_toArray, List.getElem_cons_succ, List.getElem_cons_zero, List.setIfInBounds_toArray, List.set_cons_zero, List.set_cons_succ]
        refine wpAnyH_take (i := 2) (v := ?_) rfl (by kernel_rfl) (by kernel_rfl) (by kernel_rfl) (fun _ _ _ h => h) (Or.inl ⟨by rfl, ?_⟩) (by assumption) ?_
        rotate_left
        · intro w hSw; (try dsimp only at hSw); go_simp; try with_reducible rfl
        try simp only [Act.put, List.getElem_toArray, List.getElem_cons_succ, List.getElem_cons_zero, List.setIfInBounds_toArray, List.set_cons_zero, List.set_cons_succ]
        refine wpAnyH_take (i := 4) (v := ?_) rfl (by kernel_rfl) (by kernel_rfl) (by kernel_rfl) (fun _ _ _ h => h) (Or.inl ⟨by rfl, ?_⟩) (by assumption) ?_
        rotate_left
        · intro w hSw; (try dsimp only at hSw); go_simp; try with_reducible rfl
        try simp only [Act.put, List.getElem_toArray, List.getElem_cons_succ, List.getElem_cons_zero, List.setIfInBounds_toArray, List.set_cons_zero, List.set_cons_succ]
        refine wpAnyH_take (i := 5) (v := ?_) rfl (by kernel_rfl) (by kernel_rfl) (by kernel_rfl) (fun _ _ _ h => h) (Or.inl ⟨by rfl, ?_⟩) (by assumption) ?_
        rotate_left
        · intro w hSw; (try dsimp only at hSw); go_simp; try with_reducible rfl
        try simp only [Act.put, List.getElem_toArray, List.getElem_cons_succ, List.getElem_cons_zero, List.setIfInBounds_toArray, List.set_cons_zero, List.set_cons_succ]
        refine wpAnyH_ready (rs := [3, 8]) (by kernel_rfl) (by simp) ?_
        refine AllReadyH.cons rfl (fun K hK => ?_) (AllReadyH.cons rfl (fun K hK => ?_) AllReadyH.nil)
        · go_simp
          refine (join_any P Q G H ra rn rc ka kn kc _ HU.out.1.1 _ hki).mono ?_
          rintro e1 x1 ⟨rfl, hx1⟩
          rw [HEY.out]
          go_wp2_with fail
          refine hK.out _ _ ?_ (fun hHeld => ?_)
          · exact BoxS.same (by with_reducible assumption) (by with_reducible assumption)
          clear hK K
          try simp only [Act.put, List.getElem_toArray, List.getElem_cons_succ, List.getElem_cons_zero, List.setIfInBounds_toArray, List.set_cons_zero, List.set_cons_succ]
          refine wpAnyH_ready (rs := [6, 8]) (by kernel_rfl) (by simp) ?_
          refine AllReadyH.cons rfl (fun K hK => ?_) (AllReadyH.cons rfl (fun K hK => ?_) AllReadyH.nil)
          · go_simp
            refine (seal_any P Q G H ra rn rc y m r HU.out.1.1 HU.out.2.1.1 HU.out.2.1.2 HU.out.2.2.1.1 HYU.out.1 HM.out.1 HM.out.2.2.1 HM.out.2.2.2 _).mono ?_
            rintro e1 x2 ⟨rfl, hx2⟩
            rw [HTU.out, HTV.out]
            go_wp2_with fail
            refine hK.out _ _ ?_ (fun hHeld => ?_)
            · exact BoxS.same (by with_reducible assumption) (by with_reducible assumption)
            clear hK K
            try simp only [Act.put, List.getElem_toArray, List.getElem_cons_succ, List.getElem_cons_zero, List.setIfInBounds_toArray, List.set_cons_zero, List.set_cons_succ]
            refine wpAnyH_ready (rs := [7, 8]) (by kernel_rfl) (by simp) ?_
            refine AllReadyH.cons rfl (fun K hK => ?_) (AllReadyH.cons rfl (fun K hK => ?_) AllReadyH.nil)
            · go_simp
              refine (enter_any tu tv _).mono ?_
              rintro e1 x3 ⟨rfl, hx3⟩
              go_wp2_with fail
              refine hK.out _ _ ?_ (fun hHeld => ?_)
              · exact BoxS.same (by with_reducible assumption) (by with_reducible assumption)
              clear hK K
              try simp only [Act.put, List.getElem_toArray, List.getElem_cons_succ, List.getElem_cons_zero, List.setIfInBounds_toArray, List.set_cons_zero, List.set_cons_succ]
              refine wpAnyH_ready (rs := [8]) (by kernel_rfl) (by simp) ?_
              refine AllReadyH.cons rfl (fun K hK => ?_) AllReadyH.nil
              go_simp
              have hA := (Same.refl x3).alloc (.cells #[.int .u64 0, .int .u64 0, .int .u64 0] 49)
              have hP := ThreeAt.new x3 49 (.int .u64 0) (.int .u64 0) (.int .u64 0)
              have hN : x3.heap.size ≠ gx ∧ w.heap.size ≤ x3.heap.size := ⟨World.new_ne x3 ⟨gx, 0, none⟩ (by assumption : BoxS w gx P Q G H ra rn rc x3).1, (by assumption : BoxS w gx P Q G H ra rn rc x3).base.size⟩
              obtain ⟨wA, eA⟩ : ∃ wA, x3.alloc (.cells #[.int .u64 0, .int .u64 0, .int .u64 0] 49) = wA := ⟨_, rfl⟩
              obtain ⟨tx, eD⟩ : ∃ dx, x3.heap.size = dx := ⟨_, rfl⟩
              rw [eA] at hA hP ⊢
              rw [eD] at hP hN ⊢
              clear eA eD
              refine hK.out _ _ ?_ (fun hHeld => ?_)
              · exact BoxS.same (by with_reducible assumption) (by with_reducible assumption)
              clear hK K
              try simp only [Act.put, List.getElem_toArray, List.getElem_cons_succ, List.getElem_cons_zero, List.setIfInBounds_toArray, List.set_cons_zero, List.set_cons_succ]
              refine wpAnyH_ready (rs := [9]) (by kernel_rfl) (by simp) ?_
              refine AllReadyH.cons rfl (fun K hK => ?_) AllReadyH.nil
              obtain ⟨d0, d1, d2, d3, d4, d5⟩ := hP
              have hP2 := (ThreeAt.mk d0 d1 d2 d3 d4 d5).put (.int .u64 tu) (.int .u64 1) (.int .u64 tv)
              go_simp
              refine hK.out _ _ ?_ (fun hHeld => ?_)
              · exact ((BoxS.set hHeld hN.1 hN.2 _).set hN.1 hN.2 _).set hN.1 hN.2 _
              clear hK K
              try simp only [Act.put, List.getElem_toArray, List.getElem_cons_succ, List.getElem_cons_zero, List.setIfInBounds_toArray, List.set_cons_zero, List.set_cons_succ]
              refine wpAnyH_done (by kernel_rfl) ?_ _
              go_wp2_with fail
              go_meet
              exact ⟨tx, rfl, hN.1, hN.2, hP2, hHeld⟩
            · go_simp
              have hA := (Same.refl x2).alloc (.cells #[.int .u64 0, .int .u64 0, .int .u64 0] 49)
              have hP := ThreeAt.new x2 49 (.int .u64 0) (.int .u64 0) (.int .u64 0)
              have hN : x2.heap.size ≠ gx ∧ w.heap.size ≤ x2.heap.size := ⟨World.new_ne x2 ⟨gx, 0, none⟩ (by assumption : BoxS w gx P Q G H ra rn rc x2).1, (by assumption : BoxS w gx P Q G H ra rn rc x2).base.size⟩
              obtain ⟨wA, eA⟩ : ∃ wA, x2.alloc (.cells #[.int .u64 0, .int .u64 0, .int .u64 0] 49) = wA := ⟨_, rfl⟩
              obtain ⟨tx, eD⟩ : ∃ dx, x2.heap.size = dx := ⟨_, rfl⟩
              rw [eA] at hA hP ⊢
              rw [eD] at hP hN ⊢
              clear eA eD
              refine hK.out _ _ ?_ (fun hHeld => ?_)
              · exact BoxS.same (by with_reducible assumption) (by with_reducible assumption)
              clear hK K
              try simp only [Act.put, List.getElem_toArray, List.getElem_cons_succ, List.getElem_cons_zero, List.setIfInBounds_toArray, List.set_cons_zero, List.set_cons_succ]
              refine wpAnyH_ready (rs := [7]) (by kernel_rfl) (by simp) ?_
              refine AllReadyH.cons rfl (fun K hK => ?_) AllReadyH.nil
              go_simp
              refine (enter_any tu tv _).mono ?_
              rintro e1 x3 ⟨rfl, hx3⟩
              go_wp2_with fail
              replace hP := hP.same hx3
              refine hK.out _ _ ?_ (fun hHeld => ?_)
              · exact BoxS.same (by with_reducible assumption) (by with_reducible assumption)
              clear hK K
              try simp only [Act.put, List.getElem_toArray, List.getElem_cons_succ, List.getElem_cons_zero, List.setIfInBounds_toArray, List.set_cons_zero, List.set_cons_succ]
              refine wpAnyH_ready (rs := [9]) (by kernel_rfl) (by simp) ?_
              refine AllReadyH.cons rfl (fun K hK => ?_) AllReadyH.nil
              obtain ⟨d0, d1, d2, d3, d4, d5⟩ := hP
              have hP2 := (ThreeAt.mk d0 d1 d2 d3 d4 d5).put (.int .u64 tu) (.int .u64 1) (.int .u64 tv)
              go_simp
              refine hK.out _ _ ?_ (fun hHeld => ?_)
              · exact ((BoxS.set hHeld hN.1 hN.2 _).set hN.1 hN.2 _).set hN.1 hN.2 _
              clear hK K
              try simp only [Act.put, List.getElem_toArray, List.getElem_cons_succ, List.getElem_cons_zero, List.setIfInBounds_toArray, List.set_cons_zero, List.set_cons_succ]
              refine wpAnyH_done (by kernel_rfl) ?_ _
              go_wp2_with fail
              go_meet
              exact ⟨tx, rfl, hN.1, hN.2, hP2, hHeld⟩
          · go_simp
            have hA := (Same.refl x1).alloc (.cells #[.int .u64 0, .int .u64 0, .int .u64 0] 49)
            have hP := ThreeAt.new x1 49 (.int .u64 0) (.int .u64 0) (.int .u64 0)
            have hN : x1.heap.size ≠ gx ∧ w.heap.size ≤ x1.heap.size := ⟨World.new_ne x1 ⟨gx, 0, none⟩ (by assumption : BoxS w gx P Q G H ra rn rc x1).1, (by assumption : BoxS w gx P Q G H ra rn rc x1).base.size⟩
            obtain ⟨wA, eA⟩ : ∃ wA, x1.alloc (.cells #[.int .u64 0, .int .u64 0, .int .u64 0] 49) = wA := ⟨_, rfl⟩
            obtain ⟨tx, eD⟩ : ∃ dx, x1.heap.size = dx := ⟨_, rfl⟩
            rw [eA] at hA hP ⊢
            rw [eD] at hP hN ⊢
            clear eA eD
            refine hK.out _ _ ?_ (fun hHeld => ?_)
            · exact BoxS.same (by with_reducible assumption) (by with_reducible assumption)
            clear hK K
            try simp only [Act.put, List.getElem_toArray, List.getElem_cons_succ, List.getElem_cons_zero, List.setIfInBounds_toArray, List.set_cons_zero, List.set_cons_succ]
            refine wpAnyH_ready (rs := [6]) (by kernel_rfl) (by simp) ?_
            refine AllReadyH.cons rfl (fun K hK => ?_) AllReadyH.nil
            go_simp
            refine (seal_any P Q G H ra rn rc y m r HU.out.1.1 HU.out.2.1.1 HU.out.2.1.2 HU.out.2.2.1.1 HYU.out.1 HM.out.1 HM.out.2.2.1 HM.out.2.2.2 _).mono ?_
            rintro e1 x2 ⟨rfl, hx2⟩
            rw [HTU.out, HTV.out]
            go_wp2_with fail
            replace hP := hP.same hx2
            refine hK.out _ _ ?_ (fun hHeld => ?_)
            · exact BoxS.same (by with_reducible assumption) (by with_reducible assumption)
            clear hK K
            try simp only [Act.put, List.getElem_toArray, List.getElem_cons_succ, List.getElem_cons_zero, List.setIfInBounds_toArray, List.set_cons_zero, List.set_cons_succ]
            refine wpAnyH_ready (rs := [7]) (by kernel_rfl) (by simp) ?_
            refine AllReadyH.cons rfl (fun K hK => ?_) AllReadyH.nil
            go_simp
            refine (enter_any tu tv _).mono ?_
            rintro e1 x3 ⟨rfl, hx3⟩
            go_wp2_with fail
            replace hP := hP.same hx3
            refine hK.out _ _ ?_ (fun hHeld => ?_)
            · exact BoxS.same (by with_reducible assumption) (by with_reducible assumption)
            clear hK K
            try simp only [Act.put, List.getElem_toArray, List.getElem_cons_succ, List.getElem_cons_zero, List.setIfInBounds_toArray, List.set_cons_zero, List.set_cons_succ]
            refine wpAnyH_ready (rs := [9]) (by kernel_rfl) (by simp) ?_
            refine AllReadyH.cons rfl (fun K hK => ?_) AllReadyH.nil
            obtain ⟨d0, d1, d2, d3, d4, d5⟩ := hP
            have hP2 := (ThreeAt.mk d0 d1 d2 d3 d4 d5).put (.int .u64 tu) (.int .u64 1) (.int .u64 tv)
            go_simp
            refine hK.out _ _ ?_ (fun hHeld => ?_)
            · exact ((BoxS.set hHeld hN.1 hN.2 _).set hN.1 hN.2 _).set hN.1 hN.2 _
            clear hK K
            try simp only [Act.put, List.getElem_toArray, List.getElem_cons_succ, List.getElem_cons_zero, List.setIfInBounds_toArray, List.set_cons_zero, List.set_cons_succ]
            refine wpAnyH_done (by kernel_rfl) ?_ _
            go_wp2_with fail
            go_meet
            exact ⟨tx, rfl, hN.1, hN.2, hP2, hHeld⟩
        · go_simp
          have hA := (Same.refl Wd).alloc (.cells #[.int .u64 0, .int .u64 0, .int .u64 0] 49)
          have hP := ThreeAt.new Wd 49 (.int .u64 0) (.int .u64 0) (.int .u64 0)
          have hN : Wd.heap.size ≠ gx ∧ w.heap.size ≤ Wd.heap.size := ⟨World.new_ne Wd ⟨gx, 0, none⟩ (by assumption : BoxS w gx P Q G H ra rn rc Wd).1, (by assumption : BoxS w gx P Q G H ra rn rc Wd).base.size⟩
          obtain ⟨wA, eA⟩ : ∃ wA, Wd.alloc (.cells #[.int .u64 0, .int .u64 0, .int .u64 0] 49) = wA := ⟨_, rfl⟩
          obtain ⟨tx, eD⟩ : ∃ dx, Wd.heap.size = dx := ⟨_, rfl⟩
          rw [eA] at hA hP ⊢
          rw [eD] at hP hN ⊢
          clear eA eD
          replace hki := hki.same hA
          refine hK.out _ _ ?_ (fun hHeld => ?_)
          · exact BoxS.same (by with_reducible assumption) (by with_reducible assumption)
          clear hK K
          try simp only [Act.put, List.getElem_toArray, List.getElem_cons_succ, List.getElem_cons_zero, List.setIfInBounds_toArray, List.set_cons_zero, List.set_cons_succ]
          refine wpAnyH_ready (rs := [3]) (by kernel_rfl) (by simp) ?_
          refine AllReadyH.cons rfl (fun K hK => ?_) AllReadyH.nil
          go_simp
          refine (join_any P Q G H ra rn rc ka kn kc _ HU.out.1.1 _ hki).mono ?_
          rintro e1 x1 ⟨rfl, hx1⟩
          rw [HEY.out]
          go_wp2_with fail
          replace hP := hP.same hx1
          refine hK.out _ _ ?_ (fun hHeld => ?_)
          · exact BoxS.same (by with_reducible assumption) (by with_reducible assumption)
          clear hK K
          try simp only [Act.put, List.getElem_toArray, List.getElem_cons_succ, List.getElem_cons_zero, List.setIfInBounds_toArray, List.set_cons_zero, List.set_cons_succ]
          refine wpAnyH_ready (rs := [6]) (by kernel_rfl) (by simp) ?_
          refine AllReadyH.cons rfl (fun K hK => ?_) AllReadyH.nil
          go_simp
          refine (seal_any P Q G H ra rn rc y m r HU.out.1.1 HU.out.2.1.1 HU.out.2.1.2 HU.out.2.2.1.1 HYU.out.1 HM.out.1 HM.out.2.2.1 HM.out.2.2.2 _).mono ?_
          rintro e1 x2 ⟨rfl, hx2⟩
          rw [HTU.out, HTV.out]
          go_wp2_with fail
          replace hP := hP.same hx2
          refine hK.out _ _ ?_ (fun hHeld => ?_)
          · exact BoxS.same (by with_reducible assumption) (by with_reducible assumption)
          clear hK K
          try simp only [Act.put, List.getElem_toArray, List.getElem_cons_succ, List.getElem_cons_zero, List.setIfInBounds_toArray, List.set_cons_zero, List.set_cons_succ]
          refine wpAnyH_ready (rs := [7]) (by kernel_rfl) (by simp) ?_
          refine AllReadyH.cons rfl (fun K hK => ?_) AllReadyH.nil
          go_simp
          refine (enter_any tu tv _).mono ?_
          rintro e1 x3 ⟨rfl, hx3⟩
          go_wp2_with fail
          replace hP := hP.same hx3
          refine hK.out _ _ ?_ (fun hHeld => ?_)
          · exact BoxS.same (by with_reducible assumption) (by with_reducible assumption)
          clear hK K
          try simp only [Act.put, List.getElem_toArray, List.getElem_cons_succ, List.getElem_cons_zero, List.setIfInBounds_toArray, List.set_cons_zero, List.set_cons_succ]
          refine wpAnyH_ready (rs := [9]) (by kernel_rfl) (by simp) ?_
          refine AllReadyH.cons rfl (fun K hK => ?_) AllReadyH.nil
          obtain ⟨d0, d1, d2, d3, d4, d5⟩ := hP
          have hP2 := (ThreeAt.mk d0 d1 d2 d3 d4 d5).put (.int .u64 tu) (.int .u64 1) (.int .u64 tv)
          go_simp
          refine hK.out _ _ ?_ (fun hHeld => ?_)
          · exact ((BoxS.set hHeld hN.1 hN.2 _).set hN.1 hN.2 _).set hN.1 hN.2 _
          clear hK K
          try simp only [Act.put, List.getElem_toArray, List.getElem_cons_succ, List.getElem_cons_zero, List.setIfInBounds_toArray, List.set_cons_zero, List.set_cons_succ]
          refine wpAnyH_done (by kernel_rfl) ?_ _
          go_wp2_with fail
          go_meet
          exact ⟨tx, rfl, hN.1, hN.2, hP2, hHeld⟩
      case rest =>
        obtain ⟨tx, e15, htg, htw, hP, hB8⟩ := hcut
        subst e15
        have HT := Lib.hid (And.intro htg htw)
        have HP := Lib.hid hP
        have HB8 := Lib.hid hB8
        clear htg htw hP hB8 HB6
        go_wp2_with fail
        go_loopw [70] (fun s70 wr => ∃ (j : Nat) (tw tv : Int) (d : Nat), s70 = .int .i64 j ∧ j ≤ k ∧ ThreeAt wr tx (.int .u64 tu) (.int .u64 tw) (.int .u64 tv) ∧ Hid (CrossP P Q G (expI Q P G x) y m tu tw tv r.toNat (xs.take j) d) ∧ Hid (BoxS w gx P Q G H ra rn rc wr)) (fun s70 _ => k - (intOf s70).toNat)
        case atStart => exact ⟨0, 1, tv, 0, rfl, by omega, HP.out, HCR, HB8⟩
        case round =>
          obtain ⟨j, tw, tv, d0, rfl, hj, hp, hcr, hbx⟩ := hrel
          obtain ⟨b0, b1, b2, b3, b4, hS⟩ := hbx.out
          have hcu := Lib.hid (show U64 tw ∧ U64 tv by have h1 := hcr.out.iw; have h2 := hcr.out.iv; have := HU.out.1.2; exact ⟨⟨by have := h1.1; omega, by have := h1.2.1; omega⟩, ⟨by have := h2.1; omega, by have := h2.2.1; omega⟩⟩)
          by_cases hlt : j < k
          · obtain ⟨xb, xo, hxa, hxc⟩ := (HX.out.same hS).cells (by omega)
            have hc := hxc j hlt
            subst hxa
            have hz := HX.out.bd j
            obtain ⟨z, ez⟩ : ∃ z, xs.getD j 0 = z := ⟨_, rfl⟩
            have HZ := Lib.hid ez
            rw [ez] at hc hz
            have HZU := Lib.hid hz
            have hj8 : j < 9 := by have := HN8.out; omega
            clear hxc ez hz
            go_upto_if 80 with fail
            go_cut [18] (fun s18 wx => ∃ d, s18 = .int .u64 d ∧ Hid (U64 d) ∧ wr = wx)
            case first =>
              by_cases hjm : j < mm
              · obtain ⟨yb, yo, hya, hyc⟩ := (HY.out.same hS).cells (by omega)
                have hc2 := hyc j hjm
                subst hya
                have hd := Lib.hid (HY.out.bd j)
                obtain ⟨d, ed⟩ : ∃ d, ys.getD j 0 = d := ⟨_, rfl⟩
                rw [ed] at hc2 hd
                have dj : decide (j < mm) = true := decide_eq_true hjm
                clear hyc ed
                go_wp2_with fail
                go_meet
                exact ⟨d, rfl, hd, rfl⟩
              · have dj : decide (j < mm) = false := decide_eq_false hjm
                go_wp2_with fail
                go_meet
                exact ⟨_, rfl, Lib.hid ⟨by omega, by omega⟩, rfl⟩
            case rest =>
              obtain ⟨d, e18, HDU, ewc⟩ := hcut
              subst e18 ewc
              clear hc b0 b1 b2 b3 b4 hS
              have hcr2 := Lib.hid (CrossP.step HR.out.grp HR.out.g (exp_el HR.out.grp HR.out.g HM.out.2.1.1) HTE.out hcr.out HZU.out.1 HDU.out.1)
              rw [← HZ.out, ← take_snoc (by rw [HLX.out]; exact hlt), HZ.out] at hcr2
              obtain ⟨kk, eK⟩ : ∃ kk, expI Q P G x = kk := ⟨_, rfl⟩
              have HKU := Lib.hid (show U64 kk by rw [← eK]; exact expI_u _ _ _ _)
              have HKE := Lib.hid eK
              obtain ⟨nw, enw⟩ : ∃ k, prodI P [expI Q P G d, tw] = k := ⟨_, rfl⟩
              obtain ⟨nv, env⟩ : ∃ k, overI P (prodI P [tv, expI Q P kk d]) (expI Q P tu z) = k := ⟨_, rfl⟩
              rw [eK, enw, env] at hcr2
              rw [← eK] at hcr2
              have EN1 := Lib.hid enw
              have EN2 := Lib.hid env
              have hBd := Lib.hid (BoxS.same hbx.out (drew_same wr))
              have hP := hp.same (drew_same wr)
              clear eK enw env hcr hp hbx
              go_upto_region 20 with fail
              refine wp_region_held_drew (S := fun w' => BoxS w gx P Q G H ra rn rc w') (by kernel_rfl) hBd.out (fun hHeld => ?_)
              obtain ⟨Wd, eWd⟩ : ∃ Wd, wr.drew = Wd := ⟨_, rfl⟩
              rw [eWd] at hHeld hP ⊢
              clear eWd hBd
              refine wpAnyH_take (i := 0) (v := ?_) rfl (by kernel_rfl) (by kernel_rfl) (by kernel_rfl) (fun _ _ _ h => h) (Or.inl ⟨by rfl, ?_⟩) (by assumption) ?_
              rotate_left
              · intro w hSw; (try dsimp only at hSw); go_simp; try with_reducible rfl
              try simp only [Act.put, List.getElem_toArray, List.getElem_cons_succ, List.getElem_cons_zero, List.setIfInBounds_toArray, List.set_cons_zero, List.set_cons_succ]
              refine wpAnyH_take (i := 1) (v := ?_) rfl (by kernel_rfl) (by kernel_rfl) (by kernel_rfl) (fun _ _ _ h => h) (Or.inl ⟨by rfl, ?_⟩) (by assumption) ?_
              rotate_left
              · intro w hSw; (try dsimp only at hSw); go_simp; try with_reducible rfl
              try simp only [Act.put, List.getElem_toArray, List.getElem_cons_succ, List.getElem_cons_zero, List.setIfInBounds_toArray, List.set_cons_zero, List.set_cons_succ]
              refine wpAnyH_take (i := 2) (v := ?_) rfl (by kernel_rfl) (by kernel_rfl) (by kernel_rfl) (fun _ _ _ h => h) (Or.inl ⟨by rfl, ?_⟩) (by assumption) ?_
              rotate_left
              · intro w hSw; (try dsimp only at hSw); go_simp; try with_reducible rfl
              try simp only [Act.put, List.getElem_toArray, List.getElem_cons_succ, List.getElem_cons_zero, List.setIfInBounds_toArray, List.set_cons_zero, List.set_cons_succ]
              refine wpAnyH_take (i := 3) (v := ?_) rfl (by kernel_rfl) (by kernel_rfl) (by kernel_rfl) (fun _ _ _ h => h) (Or.inl ⟨by rfl, ?_⟩) (by assumption) ?_
              rotate_left
              · intro w hSw; (try dsimp only at hSw); go_simp; try with_reducible rfl
              try simp only [Act.put, List.getElem_toArray, List.getElem_cons_succ, List.getElem_cons_zero, List.setIfInBounds_toArray, List.set_cons_zero, List.set_cons_succ]
              refine wpAnyH_take (i := 6) (v := ?_) rfl (by kernel_rfl) (by kernel_rfl) (by kernel_rfl) (fun _ _ _ h => h) (Or.inl ⟨by rfl, ?_⟩) (by assumption) ?_
              rotate_left
              · intro w hSw; (try dsimp only at hSw); go_simp; try with_reducible rfl
              try simp only [Act.put, List.getElem_toArray, List.getElem_cons_succ, List.getElem_cons_zero, List.setIfInBounds_toArray, List.set_cons_zero, List.set_cons_succ]
              refine wpAnyH_ready (rs := [4, 5]) (by kernel_rfl) (by simp) ?_
              refine AllReadyH.cons rfl (fun K hK => ?_) (AllReadyH.cons rfl (fun K hK => ?_) AllReadyH.nil)
              · go_simp
                refine (key_any P Q G H ra rn rc x HU.out.1.1 HU.out.2.1.1 HU.out.2.1.2 HU.out.2.2.1.1 HM.out.2.1.1 HM.out.2.1.2 _).mono ?_
                rintro e1 x1 ⟨rfl, hx1⟩
                rw [HKE.out]
                go_wp2_with fail
                replace hP := hP.same hx1
                refine hK.out _ _ ?_ (fun hHeld => ?_)
                · exact BoxS.same (by with_reducible assumption) (by with_reducible assumption)
                clear hK K
                try simp only [Act.put, List.getElem_toArray, List.getElem_cons_succ, List.getElem_cons_zero, List.setIfInBounds_toArray, List.set_cons_zero, List.set_cons_succ]
                refine wpAnyH_ready (rs := [5]) (by kernel_rfl) (by simp) ?_
                refine AllReadyH.cons rfl (fun K hK => ?_) AllReadyH.nil
                obtain ⟨z0, z1, z2, z3, z4, z5⟩ := hP
                go_simp
                have hP := ThreeAt.mk z0 z1 z2 z3 z4 z5
                clear z0 z1 z2 z3 z4 z5
                refine hK.out _ _ ?_ (fun hHeld => ?_)
                · exact hHeld
                clear hK K
                try simp only [Act.put, List.getElem_toArray, List.getElem_cons_succ, List.getElem_cons_zero, List.setIfInBounds_toArray, List.set_cons_zero, List.set_cons_succ]
                refine wpAnyH_ready (rs := [7]) (by kernel_rfl) (by simp) ?_
                refine AllReadyH.cons rfl (fun K hK => ?_) AllReadyH.nil
                go_simp
                refine (cross_any P Q G H ra rn rc z kk tu tw tv d HU.out.1.1 HU.out.2.1.1 HU.out.2.1.2 HU.out.2.2.1.1 HZU.out.1 HZU.out.2 HKU.out.1 HTUU.out.1 hcu.out.1 hcu.out.2 HDU.out.1 HDU.out.2 _).mono ?_
                rintro e1 x2 ⟨rfl, hx2⟩
                rw [EN1.out, EN2.out]
                go_wp2_with fail
                replace hP := hP.same hx2
                refine hK.out _ _ ?_ (fun hHeld => ?_)
                · exact BoxS.same (by with_reducible assumption) (by with_reducible assumption)
                clear hK K
                try simp only [Act.put, List.getElem_toArray, List.getElem_cons_succ, List.getElem_cons_zero, List.setIfInBounds_toArray, List.set_cons_zero, List.set_cons_succ]
                refine wpAnyH_ready (rs := [8]) (by kernel_rfl) (by simp) ?_
                refine AllReadyH.cons rfl (fun K hK => ?_) AllReadyH.nil
                obtain ⟨d0, d1, d2, d3, d4, d5⟩ := hP
                have hP2 := Lib.hid ((ThreeAt.mk d0 d1 d2 d3 d4 d5).put (.int .u64 tu) (.int .u64 nw) (.int .u64 nv))
                go_simp
                refine hK.out _ _ ?_ (fun hHeld => ?_)
                · exact ((BoxS.set hHeld HT.out.1 HT.out.2 _).set HT.out.1 HT.out.2 _).set HT.out.1 HT.out.2 _
                clear hK K
                try simp only [Act.put, List.getElem_toArray, List.getElem_cons_succ, List.getElem_cons_zero, List.setIfInBounds_toArray, List.set_cons_zero, List.set_cons_succ]
                clear d0 d1 d2 d3 d4 d5
                have HBN := Lib.hid hHeld
                refine wpAnyH_done (by kernel_rfl) ?_ _
                clear hHeld
                go_wp2_with fail
                go_roundw
                case rel => exact ⟨j + 1, nw, nv, _, by go_num, by omega, hP2.out, hcr2, HBN⟩
                case measure => simp [intOf]; omega
              · obtain ⟨z0, z1, z2, z3, z4, z5⟩ := hP
                go_simp
                have hP := ThreeAt.mk z0 z1 z2 z3 z4 z5
                clear z0 z1 z2 z3 z4 z5
                refine hK.out _ _ ?_ (fun hHeld => ?_)
                · exact hHeld
                clear hK K
                try simp only [Act.put, List.getElem_toArray, List.getElem_cons_succ, List.getElem_cons_zero, List.setIfInBounds_toArray, List.set_cons_zero, List.set_cons_succ]
                refine wpAnyH_ready (rs := [4]) (by kernel_rfl) (by simp) ?_
                refine AllReadyH.cons rfl (fun K hK => ?_) AllReadyH.nil
                go_simp
                refine (key_any P Q G H ra rn rc x HU.out.1.1 HU.out.2.1.1 HU.out.2.1.2 HU.out.2.2.1.1 HM.out.2.1.1 HM.out.2.1.2 _).mono ?_
                rintro e1 x1 ⟨rfl, hx1⟩
                rw [HKE.out]
                go_wp2_with fail
                replace hP := hP.same hx1
                refine hK.out _ _ ?_ (fun hHeld => ?_)
                · exact BoxS.same (by with_reducible assumption) (by with_reducible assumption)
                clear hK K
                try simp only [Act.put, List.getElem_toArray, List.getElem_cons_succ, List.getElem_cons_zero, List.setIfInBounds_toArray, List.set_cons_zero, List.set_cons_succ]
                refine wpAnyH_ready (rs := [7]) (by kernel_rfl) (by simp) ?_
                refine AllReadyH.cons rfl (fun K hK => ?_) AllReadyH.nil
                go_simp
                refine (cross_any P Q G H ra rn rc z kk tu tw tv d HU.out.1.1 HU.out.2.1.1 HU.out.2.1.2 HU.out.2.2.1.1 HZU.out.1 HZU.out.2 HKU.out.1 HTUU.out.1 hcu.out.1 hcu.out.2 HDU.out.1 HDU.out.2 _).mono ?_
                rintro e1 x2 ⟨rfl, hx2⟩
                rw [EN1.out, EN2.out]
                go_wp2_with fail
                replace hP := hP.same hx2
                refine hK.out _ _ ?_ (fun hHeld => ?_)
                · exact BoxS.same (by with_reducible assumption) (by with_reducible assumption)
                clear hK K
                try simp only [Act.put, List.getElem_toArray, List.getElem_cons_succ, List.getElem_cons_zero, List.setIfInBounds_toArray, List.set_cons_zero, List.set_cons_succ]
                refine wpAnyH_ready (rs := [8]) (by kernel_rfl) (by simp) ?_
                refine AllReadyH.cons rfl (fun K hK => ?_) AllReadyH.nil
                obtain ⟨d0, d1, d2, d3, d4, d5⟩ := hP
                have hP2 := Lib.hid ((ThreeAt.mk d0 d1 d2 d3 d4 d5).put (.int .u64 tu) (.int .u64 nw) (.int .u64 nv))
                go_simp
                refine hK.out _ _ ?_ (fun hHeld => ?_)
                · exact ((BoxS.set hHeld HT.out.1 HT.out.2 _).set HT.out.1 HT.out.2 _).set HT.out.1 HT.out.2 _
                clear hK K
                try simp only [Act.put, List.getElem_toArray, List.getElem_cons_succ, List.getElem_cons_zero, List.setIfInBounds_toArray, List.set_cons_zero, List.set_cons_succ]
                clear d0 d1 d2 d3 d4 d5
                have HBN := Lib.hid hHeld
                refine wpAnyH_done (by kernel_rfl) ?_ _
                clear hHeld
                go_wp2_with fail
                go_roundw
                case rel => exact ⟨j + 1, nw, nv, _, by go_num, by omega, hP2.out, hcr2, HBN⟩
                case measure => simp [intOf]; omega
          · obtain rfl : j = k := by omega
            have HBX := hbx
            have HO := Lib.hid (show overI P tv (prodI P [expI Q P tw x]) = m from by
              have h1 := hcr.out
              rw [List.take_of_length_le (by rw [HLX.out]; exact Nat.le_refl _), ← HEY.out, ← HTU.out] at h1
              exact crossed_open HR.out.grp HR.out.g HE.out (getD_nonneg HX.out) HM.out.2.1.1 HM.out.2.2.1 h1)
            obtain ⟨p0, p1, p2, p3, p4, p5⟩ := hp
            clear hbx hcr
            go_wp2_with fail
            refine (leave_any tu tw tv _).mono ?_
            rintro e1 w6 ⟨rfl, hT⟩
            have HB9 := Lib.hid (BoxS.same HBX.out hT)
            clear p0 p1 p2 p3 p4 p5 b0 b1 b2 b3 b4 hS hT
            go_upto_region 23 with fail
            obtain ⟨w7, ew7⟩ : ∃ w7, w6.alloc (.cells #[.int .u64 tw, .int .u64 tv] 27) = w7 := ⟨_, rfl⟩
            obtain ⟨cx, ecx⟩ : ∃ cx, w6.heap.size = cx := ⟨_, rfl⟩
            have hS7 : Same w6 w7 := by rw [← ew7]; exact (Same.refl w6).alloc _
            have hpc := PairAt.new w6 27 (.int .u64 tw) (.int .u64 tv)
            rw [ew7, ecx] at hpc
            rw [ew7, ecx]
            have HC0 := Lib.hid (show BoxC w gx cx P Q G H ra rn rc tw tv w7.drew from BoxC.same (⟨hpc.u, hpc.v, BoxS.same HB9.out hS7⟩ : BoxC w gx cx P Q G H ra rn rc tw tv w7) (drew_same _))
            clear ew7 ecx hS7 hpc HB9
            refine wp_region_held_drew (S := fun w' => BoxC w gx cx P Q G H ra rn rc tw tv w') (by kernel_rfl) HC0.out (fun hHeld => ?_)
            obtain ⟨Wd, eWd⟩ : ∃ Wd, w7.drew = Wd := ⟨_, rfl⟩
            rw [eWd] at hHeld ⊢
            clear eWd HC0
            refine wpAnyH_take (i := 0) (v := ?_) rfl (by kernel_rfl) (by kernel_rfl) (by kernel_rfl) (fun _ _ _ h => h) (Or.inl ⟨by rfl, ?_⟩) (by assumption) ?_
            rotate_left
            · intro w hSw; (try dsimp only at hSw); go_simp; try with_reducible rfl
            try simp only [Act.put, List.getElem_toArray, List.getElem_cons_succ, List.getElem_cons_zero, List.setIfInBounds_toArray, List.set_cons_zero, List.set_cons_succ]
            refine wpAnyH_take (i := 1) (v := ?_) rfl (by kernel_rfl) (by kernel_rfl) (by kernel_rfl) (fun _ _ _ h => h) (Or.inl ⟨by rfl, ?_⟩) (by assumption) ?_
            rotate_left
            · intro w hSw; (try dsimp only at hSw); go_simp; try with_reducible rfl
            try simp only [Act.put, List.getElem_toArray, List.getElem_cons_succ, List.getElem_cons_zero, List.setIfInBounds_toArray, List.set_cons_zero, List.set_cons_succ]
            refine wpAnyH_take (i := 2) (v := ?_) rfl (by kernel_rfl) (by kernel_rfl) (by kernel_rfl) (fun _ _ _ h => h) (Or.inl ⟨by rfl, ?_⟩) (by assumption) ?_
            rotate_left
            · intro w hSw; (try dsimp only at hSw); go_simp; try with_reducible rfl
            try simp only [Act.put, List.getElem_toArray, List.getElem_cons_succ, List.getElem_cons_zero, List.setIfInBounds_toArray, List.set_cons_zero, List.set_cons_succ]
            refine wpAnyH_take (i := 3) (v := ?_) rfl (by kernel_rfl) (by kernel_rfl) (by kernel_rfl) (fun _ _ _ h => h) (Or.inl ⟨by rfl, ?_⟩) (by assumption) ?_
            rotate_left
            · intro w hSw; (try dsimp only at hSw); go_simp; try with_reducible rfl
            try simp only [Act.put, List.getElem_toArray, List.getElem_cons_succ, List.getElem_cons_zero, List.setIfInBounds_toArray, List.set_cons_zero, List.set_cons_succ]
            refine wpAnyH_take (i := 4) (v := ?_) rfl (by kernel_rfl) (by kernel_rfl) (by kernel_rfl) (fun _ _ _ h => h) (Or.inl ⟨by rfl, ?_⟩) (by assumption) ?_
            rotate_left
            · intro w hSw; (try dsimp only at hSw); go_simp; try with_reducible rfl
            try simp only [Act.put, List.getElem_toArray, List.getElem_cons_succ, List.getElem_cons_zero, List.setIfInBounds_toArray, List.set_cons_zero, List.set_cons_succ]
            refine wpAnyH_take (i := 8) (v := ?_) rfl (by kernel_rfl) (by kernel_rfl) (by kernel_rfl) (fun _ _ _ h => h) (Or.inl ⟨by rfl, ?_⟩) (by assumption) ?_
            rotate_left
            · intro w hSw; (try dsimp only at hSw); go_simp; try with_reducible rfl
            try simp only [Act.put, List.getElem_toArray, List.getElem_cons_succ, List.getElem_cons_zero, List.setIfInBounds_toArray, List.set_cons_zero, List.set_cons_succ]
            refine wpAnyH_ready (rs := [5]) (by kernel_rfl) (by simp) ?_
            refine AllReadyH.cons rfl (fun K hK => ?_) AllReadyH.nil
            go_simp
            refine (share_any P Q G H ra rn rc x tw tv HU.out.1.1 HU.out.2.1.1 HU.out.2.1.2 hcu.out.1.1 HM.out.2.1.1 HM.out.2.1.2 _).mono ?_
            rintro e1 y1 ⟨rfl, hy1⟩
            go_wp2_with fail
            refine hK.out _ _ ?_ (fun hHeld => ?_)
            · exact BoxC.same (by with_reducible assumption) (by with_reducible assumption)
            clear hK K
            try simp only [Act.put, List.getElem_toArray, List.getElem_cons_succ, List.getElem_cons_zero, List.setIfInBounds_toArray, List.set_cons_zero, List.set_cons_succ]
            refine wpAnyH_ready (rs := [6]) (by kernel_rfl) (by simp) ?_
            refine AllReadyH.cons rfl (fun K hK => ?_) AllReadyH.nil
            go_simp
            refine hK.out _ _ ?_ (fun hHeld => ?_)
            · exact BoxC.same (by with_reducible assumption) ((Same.refl _).alloc _)
            clear hK K
            try simp only [Act.put, List.getElem_toArray, List.getElem_cons_succ, List.getElem_cons_zero, List.setIfInBounds_toArray, List.set_cons_zero, List.set_cons_succ]
            refine wpAnyH_ready (rs := [7]) (by kernel_rfl) (by simp) ?_
            refine AllReadyH.cons rfl (fun K hK => ?_) AllReadyH.nil
            go_simp
            refine (open_any P Q G H ra rn rc tw tv _ 1 1 [expI Q P tw x] HU.out.1.1 hcu.out.2.1 _ (ints_one _ _ _ (expI_u _ _ _ _))).mono ?_
            rintro e1 y2 ⟨rfl, hy2⟩
            rw [HO.out]
            go_wp2_with fail
            refine hK.out _ _ ?_ (fun hHeld => ?_)
            · exact BoxC.same (by with_reducible assumption) (by with_reducible assumption)
            clear hK K
            try simp only [Act.put, List.getElem_toArray, List.getElem_cons_succ, List.getElem_cons_zero, List.setIfInBounds_toArray, List.set_cons_zero, List.set_cons_succ]
            refine wpAnyH_take (i := 9) (v := ?_) rfl (by kernel_rfl) (by kernel_rfl) (by kernel_rfl) (fun _ _ _ h => h) (Or.inl ⟨by rfl, ?_⟩) (by assumption) ?_
            rotate_left
            · intro w hSw; (try dsimp only at hSw); go_simp; try with_reducible rfl
            try simp only [Act.put, List.getElem_toArray, List.getElem_cons_succ, List.getElem_cons_zero, List.setIfInBounds_toArray, List.set_cons_zero, List.set_cons_succ]
            refine wpAnyH_take (i := 10) (v := ?_) rfl (by kernel_rfl) (by kernel_rfl) (by kernel_rfl) (fun _ _ _ h => h) (Or.inl ⟨by rfl, ?_⟩) (by assumption) ?_
            rotate_left
            · intro w hSw; (try dsimp only at hSw); go_simp; try with_reducible rfl
            try simp only [Act.put, List.getElem_toArray, List.getElem_cons_succ, List.getElem_cons_zero, List.setIfInBounds_toArray, List.set_cons_zero, List.set_cons_succ]
            refine wpAnyH_done (by kernel_rfl) ?_ _
            go_wp2_with fail
            go_ret
            exact ⟨rfl, hHeld.2.2.base⟩
end Go.Proofs.Ytfoncfojljmimaa
