/- The walk of GamalOpens. -/
import Derived.Test.YtfoncfojljmimaaAwake5
import Derived.Test.YtfoncfojljmimaaW6
import Derived.Test.YtfoncfojljmimaaGamL2
import Derived.Test.YtfoncfojljmimaaOwnI
import Derived.Test.YtfoncfojljmimaaLaw5EP
set_option linter.unusedVariables false
set_option linter.unusedSimpArgs false
namespace Go.Proofs.Ytfoncfojljmimaa
open Go.RowKit NT
set_option maxRecDepth 100000 in
set_option maxHeartbeats 6400000 in
theorem lawOpens (P Q G H : Int) (ra : Option Addr) (rn rc : Nat) (rs : List RowD) (m : Int) (a b : Option Addr) (n ca mm cb : Nat) (xs ys : List Int) (hP : U64 P) (hQ : U64 Q) (hG : U64 G) (hH : U64 H) (hm : U64 m) (hcb : mm ≤ cb) (hcb2 : cb ≤ 9223372036854775807) (w : World) (h : RowsAt w ra rn rs) (hx : IntsAt w a n xs) (hy : IntsAt w b mm ys) :
    Calls Try.prog 6 #[.agg #[.int .u64 P, .int .u64 Q, .int .u64 G, .int .u64 H, .slice ra rn rc], .int .u64 m, .agg #[.slice a n ca, .slice b mm cb]] w fun e w' => e = .returned (.bool true) ∧ Same w w' := by
  obtain ⟨W, gx, lx, eW, eg, el, hB⟩ := par_two w P Q G H ra rn rc (.slice a n ca) (.slice b mm cb)
  have EW := Lib.hid eW
  have EG := Lib.hid eg
  have EL := Lib.hid el
  have H1 := Lib.hid h
  have HX := Lib.hid hx
  have HY := Lib.hid hy
  have HLX := Lib.hid hx.len
  have HLY := Lib.hid hy.len
  have hsx := hx.small
  have hsy := hy.small
  have HU := Lib.hid (And.intro hP (And.intro hQ (And.intro hG hH)))
  have HM := Lib.hid hm
  clear eW eg el h hx hy hP hQ hG hH hm
  go_enter Try.func6, Try.ntmps6
  go_upto_region 1 with fail
  rw [EW.out, EG.out, EL.out]
  go_wp2_with fail
  refine (awake5 _).mono ?_
  rintro e1 w1 ⟨rfl, hT⟩
  replace hB := TwoS.same hB hT
  clear hT
  go_upto_region 3 with fail
  go_region_held3 (fun w' => TwoS w gx lx P Q G H ra rn rc (.slice a n ca) (.slice b mm cb) w')
    (first
      | (with_reducible refine TwoS.same (by assumption) (drew_same _))
      | assumption
      | go_keep)
    (fail)
  rename_i hHeld
  obtain ⟨w2, e2⟩ : ∃ w2, w1.drew = w2 := ⟨_, rfl⟩
  rw [e2] at hHeld ⊢
  have HB := Lib.hid hHeld.2.2
  clear e2 hB hHeld
  obtain ⟨b0, b1, b2, b3, b4, hS⟩ := HB.out
  go_wp2_with fail
  refine (group5_any P Q G H ra rn rc rs HU.out.1 HU.out.2.1 HU.out.2.2.1 HU.out.2.2.2 _ (H1.out.same hS)).mono ?_
  rintro e1 w3 ⟨rfl, hT⟩
  by_cases hg : GoodP P Q G H rs
  case neg =>
    rw [goodB_no hg]
    clear hg
    go_wp2_with fail
    go_ret
    exact ⟨rfl, hS.trans hT⟩
  rw [goodB_yes hg]
  have HR := Lib.hid hg.2
  replace HB := Lib.hid (BoxS.same HB.out hT)
  clear hg b0 b1 b2 b3 b4 hS hT
  obtain ⟨b0, b1, b2, b3, b4, hS⟩ := HB.out
  go_wp2_with fail
  refine (all_any P Q G H ra rn rc _ 1 1 [m] HU.out.1.1 HU.out.2.1.1 HU.out.2.1.2 _ (ints_one _ _ _ HM.out)).mono ?_
  rintro e1 w4 ⟨rfl, hT⟩
  by_cases ha : AllE P Q [m]
  case neg =>
    rw [allB_no ha]
    clear ha
    go_wp2_with fail
    go_ret
    exact ⟨rfl, hS.trans (((Same.refl _).alloc _).trans hT)⟩
  rw [allB_yes ha]
  have HE := Lib.hid (show InP P Q m from ha m (by simp))
  replace HB := Lib.hid (BoxS.same HB.out (((Same.refl _).alloc _).trans hT))
  clear ha b0 b1 b2 b3 b4 hS hT
  obtain ⟨b0, b1, b2, b3, b4, hS⟩ := HB.out
  by_cases n8 : 8 < n
  · have d1 : decide ((8 : Int) < n) = true := decide_eq_true (by omega)
    go_wp2_with fail
    go_ret
    exact ⟨rfl, hS⟩
  have d1 : decide ((8 : Int) < n) = false := decide_eq_false (by omega)
  by_cases m8 : 8 < mm
  · have d2 : decide ((8 : Int) < mm) = true := decide_eq_true (by omega)
    go_wp2_with fail
    go_ret
    exact ⟨rfl, hS⟩
  have d2 : decide ((8 : Int) < mm) = false := decide_eq_false (by omega)
  by_cases m0 : mm = 0
  · subst m0
    go_wp2_with fail
    go_ret
    exact ⟨rfl, hS⟩
  have d3 : ((mm : Int) == 0) = false := by simp; omega
  obtain ⟨i0, hi, hz0, hz1, hz2⟩ := info_parts info_u64
  go_wp2_with fail
  go_loopw [9, 52] (fun s9 s52 wr => ∃ k : Nat, s52 = .int .i64 k ∧ k ≤ n ∧ OwnI wr w4.heap.size s9 (partsI P Q G (xs.take k)) ∧ Same w4 wr) (fun _ s52 _ => n - (intOf s52).toNat)
  case atStart => exact ⟨0, rfl, by omega, OwnI.nil _ _, Same.refl _⟩
  case round =>
    obtain ⟨k, rfl, hk, hown, hD⟩ := hrel
    by_cases hlt : k < n
    · obtain ⟨xb, xo, hxa, hxc⟩ := (HX.out.same (hS.trans hD)).cells (by omega)
      have hc := hxc k hlt
      subst hxa
      have hz := HX.out.bd k
      obtain ⟨z, ez⟩ : ∃ z, xs.getD k 0 = z := ⟨_, rfl⟩
      have HZ := Lib.hid ez
      rw [ez] at hc hz
      have k0 := same_cell hD b0
      have k1 := same_cell hD b1
      have k2 := same_cell hD b2
      have k3 := same_cell hD b3
      have k4 := same_cell hD b4
      clear hxc ez b0 b1 b2 b3 b4
      have hl1 : (partsI P Q G (xs.take k)).length = k := by rw [partsI_len, List.length_take, HLX.out]; omega
      go_wp2_with fail
      refine (key_any P Q G H ra rn rc z HU.out.1.1 HU.out.2.1.1 HU.out.2.1.2 HU.out.2.2.1.1 hz.1 hz.2 _).mono ?_
      rintro e1 w5 ⟨rfl, hT⟩
      have hown1 := hown.same hT
      have hD1 := hD.trans hT
      have hyu := expI_u Q P G z
      have HN := Lib.hid (show partsI P Q G (xs.take (k + 1)) = partsI P Q G (xs.take k) ++ [expI Q P G z] by rw [take_snoc (by rw [HLX.out]; exact hlt), partsI_snoc, HZ.out])
      obtain ⟨y, ey⟩ : ∃ y, expI Q P G z = y := ⟨_, rfl⟩
      rw [ey] at hyu HN ⊢
      clear ey hown hD hc k0 k1 k2 k3 k4 hT
      go_wp2_with (first
        | (at_builtin; refine wpList_append_own _ rfl _ _ 34 rfl w4.heap.size 22 i0 (.int .u64 0) 1 8 Try.underlying34 hi hz0 hz1 hz2 rfl (by decide) _ _ _ rfl (hown1.own.alloc _) ⟨w5.heap.size, 0, none⟩ 1 1 [.int .u64 y] rfl rfl (one_new _ _ _) (one_cell _) (by rw [hl1]; unfold maxLen; omega) (by rw [hl1]; omega) (by have := hD1.size; simp; omega) ?_; intro v' w6 hown' hgrow _))
      go_roundw
      case rel => exact ⟨k + 1, by go_num, by omega, by rw [HN.out]; exact OwnI.push hown1.u hyu (by rw [hl1]; omega) hown', same_grown hD1 hown1 hgrow⟩
      case measure => simp [intOf]; omega
    · obtain rfl : k = n := by omega
      have hB5 : BoxS w gx P Q G H ra rn rc wr := BoxS.same HB.out hD
      rw [List.take_of_length_le (by rw [HLX.out]; exact Nat.le_refl _)] at hown
      obtain ⟨ka, kn, kc, rfl, hki⟩ := hown.ints
      have HKI := Lib.hid hki
      have HPE := Lib.hid (partsI_el HR.out.grp HR.out.g (getD_nonneg HX.out))
      have hB5h := Lib.hid hB5
      clear hki hown hD b0 b1 b2 b3 b4 hS
      obtain ⟨b0, b1, b2, b3, b4, hS⟩ := hB5
      obtain ⟨y, ey⟩ : ∃ y, prodI P (partsI P Q G xs) = y := ⟨_, rfl⟩
      have HYE := Lib.hid (show InP P Q y by rw [← ey]; exact prod_el HR.out.grp HPE.out)
      have HYU := Lib.hid (show U64 y by rw [← ey]; exact prodI_u _ _)
      have HEY := Lib.hid ey
      go_wp2_with fail
      refine (join_any P Q G H ra rn rc ka kn kc _ HU.out.1.1 _ HKI.out).mono ?_
      rintro e1 w5 ⟨rfl, hT⟩
      rw [HEY.out]
      clear ey
      have hB6 := BoxS.same hB5h.out hT
      clear b0 b1 b2 b3 b4 hS hT hB5h HKI HPE
      obtain ⟨yb, yo, hya, hyc⟩ := (HY.out.same hB6.base).cells (by omega)
      subst hya
      have hc0 := hyc 0 (by omega)
      rw [Nat.add_zero] at hc0
      obtain ⟨r, er⟩ : ∃ r, ys.getD 0 0 = r := ⟨_, rfl⟩
      have HRU := Lib.hid (show U64 r by rw [← er]; exact HY.out.bd 0)
      rw [er] at hc0
      clear er hyc
      have hn0 : (0 : Int) < mm := by omega
      have hn1 : 0 < mm := by omega
      have HB7 := Lib.hid (show YS w gx yb yo P Q G H ra rn rc r w5.drew from YS.same (⟨hc0, hB6⟩ : YS w gx yb yo P Q G H ra rn rc r w5) (drew_same _))
      clear hc0 hB6
      go_upto_region 13 with fail
      obtain ⟨su, esu⟩ : ∃ k, expI Q P G r = k := ⟨_, rfl⟩
      obtain ⟨sv, esv⟩ : ∃ k, prodI P [m, expI Q P y r] = k := ⟨_, rfl⟩
      have HSE := Lib.hid (show SealedP P Q G y m su sv r.toNat by rw [← esu, ← esv]; exact SealedP.first HR.out.grp HR.out.g HYE.out HE.out HRU.out.1)
      have HSU := Lib.hid esu
      have HSV := Lib.hid esv
      clear esu esv
      have HLIM := Lib.hid (And.intro hsx (And.intro hsy (And.intro hcb hcb2)))
      clear hsx hsy hcb hcb2
      go_cut [13] (fun s13 wx => ∃ dx, s13 = .pointer (some ⟨dx, 0, none⟩) ∧ dx ≠ gx ∧ w.heap.size ≤ dx ∧ PairAt wx dx (.int .u64 su) (.int .u64 sv) ∧ BoxS w gx P Q G H ra rn rc wx)
      case first =>
        refine wp_region_held_drew (S := fun w' => YS w gx yb yo P Q G H ra rn rc r w') (by kernel_rfl) HB7.out (fun hHeld => ?_)
        obtain ⟨Wd, eWd⟩ : ∃ Wd, w5.drew = Wd := ⟨_, rfl⟩
        rw [eWd] at hHeld ⊢
        clear eWd
        refine wpAnyH_take (i := 0) (v := ?_) rfl (by kernel_rfl) (by kernel_rfl) (by kernel_rfl) (fun _ _ _ h => h) (Or.inl ⟨by rfl, ?_⟩) (by assumption) ?_
        rotate_left
        · intro w hSw; (try dsimp only at hSw); go_simp; try with_reducible rfl
        try simp only [Act.put, List.getElem_toArray, List.getElem_cons_succ, List.getElem_cons_zero, List.setIfInBounds_toArray, List.set_cons_zero, List.set_cons_succ]
        refine wpAnyH_take (i := 1) (v := ?_) rfl (by kernel_rfl) (by kernel_rfl) (by kernel_rfl) (fun _ _ _ h => h) (Or.inl ⟨by rfl, ?_⟩) (by assumption) ?_
        rotate_left
        · intro w hSw; (try dsimp only at hSw); go_simp; try with_reducible rfl
        try simp only [Act.put, List.getElem_toArray, List.getElem_cons_succ, List.getElem_cons_zero, List.setIfInBounds_toArray, List.set_cons_zero, List.set_cons_succ]
        refine wpAnyH_take (i := 2) (v := ?_) rfl (by kernel_rfl) (by kernel_rfl) (by kernel_rfl) (fun _ _ _ h => h) (Or.inl ⟨by rfl, ?_⟩) (by assumption) ?_
        rotate_left
        · intro w hSw; (try dsimp only at hSw); go_simp; try with_reducible rfl
        try simp only [Act.put, List.getElem_toArray, List.getElem_cons_succ, List.getElem_cons_zero, List.setIfInBounds_toArray, List.set_cons_zero, List.set_cons_succ]
        refine wpAnyH_take (i := 3) (v := ?_) rfl (by kernel_rfl) (by kernel_rfl) (by kernel_rfl) (fun _ _ _ h => h) (Or.inl ⟨by rfl, ?_⟩) (by assumption) ?_
        rotate_left
        · intro w hSw; (try dsimp only at hSw); go_simp; try with_reducible rfl
        try simp only [Act.put, List.getElem_toArray, List.getElem_cons_succ, List.getElem_cons_zero, List.setIfInBounds_toArray, List.set_cons_zero, List.set_cons_succ]
        refine wpAnyH_take (i := 4) (v := ?_) rfl (by kernel_rfl) (by kernel_rfl) (by kernel_rfl) (fun _ _ _ h => h) (Or.inl ⟨by rfl, ?_⟩) (by assumption) ?_
        rotate_left
        · intro w hSw; (try dsimp only at hSw); go_simp; try with_reducible rfl
        try simp only [Act.put, List.getElem_toArray, List.getElem_cons_succ, List.getElem_cons_zero, List.setIfInBounds_toArray, List.set_cons_zero, List.set_cons_succ]
        refine wpAnyH_take (i := 5) (v := ?_) rfl (by kernel_rfl) (by kernel_rfl) (by kernel_rfl) (fun _ _ _ h => h) (Or.inl ⟨by rfl, ?_⟩) (by assumption) ?_
        rotate_left
        · intro w hSw; (try dsimp only at hSw); go_simp; try with_reducible rfl
        try simp only [Act.put, List.getElem_toArray, List.getElem_cons_succ, List.getElem_cons_zero, List.setIfInBounds_toArray, List.set_cons_zero, List.set_cons_succ]
        refine wpAnyH_ready (rs := [6, 7]) (by kernel_rfl) (by simp) ?_
        refine AllReadyH.cons rfl (fun K hK => ?_) (AllReadyH.cons rfl (fun K hK => ?_) AllReadyH.nil)
        · go_simp
          refine (seal_any P Q G H ra rn rc y m r HU.out.1.1 HU.out.2.1.1 HU.out.2.1.2 HU.out.2.2.1.1 HYU.out.1 HM.out HRU.out.1 HRU.out.2 _).mono ?_
          rintro e1 x1 ⟨rfl, hx1⟩
          rw [HSU.out, HSV.out]
          go_wp2_with fail
          refine hK.out _ _ ?_ (fun hHeld => ?_)
          · exact YS.same (by with_reducible assumption) (by with_reducible assumption)
          clear hK K
          try simp only [Act.put, List.getElem_toArray, List.getElem_cons_succ, List.getElem_cons_zero, List.setIfInBounds_toArray, List.set_cons_zero, List.set_cons_succ]
          refine wpAnyH_ready (rs := [7]) (by kernel_rfl) (by simp) ?_
          refine AllReadyH.cons rfl (fun K hK => ?_) AllReadyH.nil
          go_simp
          have hA := (Same.refl x1).alloc (.cells #[.int .u64 0, .int .u64 0] 27)
          have hP := PairAt.new x1 27 (.int .u64 0) (.int .u64 0)
          have hN : x1.heap.size ≠ yb ∧ x1.heap.size ≠ gx ∧ w.heap.size ≤ x1.heap.size := ⟨World.new_ne x1 ⟨yb, yo, none⟩ (by assumption : YS w gx yb yo P Q G H ra rn rc r x1).1, World.new_ne x1 ⟨gx, 0, none⟩ (by assumption : YS w gx yb yo P Q G H ra rn rc r x1).2.1, (by assumption : YS w gx yb yo P Q G H ra rn rc r x1).2.base.size⟩
          obtain ⟨wA, eA⟩ : ∃ wA, x1.alloc (.cells #[.int .u64 0, .int .u64 0] 27) = wA := ⟨_, rfl⟩
          obtain ⟨dx, eD⟩ : ∃ dx, x1.heap.size = dx := ⟨_, rfl⟩
          rw [eA] at hA hP ⊢
          rw [eD] at hP hN ⊢
          clear eA eD
          refine hK.out _ _ ?_ (fun hHeld => ?_)
          · exact YS.same (by with_reducible assumption) (by with_reducible assumption)
          clear hK K
          try simp only [Act.put, List.getElem_toArray, List.getElem_cons_succ, List.getElem_cons_zero, List.setIfInBounds_toArray, List.set_cons_zero, List.set_cons_succ]
          refine wpAnyH_ready (rs := [8]) (by kernel_rfl) (by simp) ?_
          refine AllReadyH.cons rfl (fun K hK => ?_) AllReadyH.nil
          obtain ⟨d0, d1, d2, d3⟩ := hP
          have hP2 := (PairAt.mk d0 d1 d2 d3).put (.int .u64 su) (.int .u64 sv)
          go_simp
          refine hK.out _ _ ?_ (fun hHeld => ?_)
          · exact (YS.set hHeld hN.1 hN.2.1 hN.2.2 _).set hN.1 hN.2.1 hN.2.2 _
          clear hK K
          try simp only [Act.put, List.getElem_toArray, List.getElem_cons_succ, List.getElem_cons_zero, List.setIfInBounds_toArray, List.set_cons_zero, List.set_cons_succ]
          refine wpAnyH_done (by kernel_rfl) ?_ _
          go_wp2_with fail
          go_meet
          exact ⟨dx, rfl, hN.2.1, hN.2.2, hP2, hHeld.2⟩
        · go_simp
          have hA := (Same.refl Wd).alloc (.cells #[.int .u64 0, .int .u64 0] 27)
          have hP := PairAt.new Wd 27 (.int .u64 0) (.int .u64 0)
          have hN : Wd.heap.size ≠ yb ∧ Wd.heap.size ≠ gx ∧ w.heap.size ≤ Wd.heap.size := ⟨World.new_ne Wd ⟨yb, yo, none⟩ (by assumption : YS w gx yb yo P Q G H ra rn rc r Wd).1, World.new_ne Wd ⟨gx, 0, none⟩ (by assumption : YS w gx yb yo P Q G H ra rn rc r Wd).2.1, (by assumption : YS w gx yb yo P Q G H ra rn rc r Wd).2.base.size⟩
          obtain ⟨wA, eA⟩ : ∃ wA, Wd.alloc (.cells #[.int .u64 0, .int .u64 0] 27) = wA := ⟨_, rfl⟩
          obtain ⟨dx, eD⟩ : ∃ dx, Wd.heap.size = dx := ⟨_, rfl⟩
          rw [eA] at hA hP ⊢
          rw [eD] at hP hN ⊢
          clear eA eD
          refine hK.out _ _ ?_ (fun hHeld => ?_)
          · exact YS.same (by with_reducible assumption) (by with_reducible assumption)
          clear hK K
          try simp only [Act.put, List.getElem_toArray, List.getElem_cons_succ, List.getElem_cons_zero, List.setIfInBounds_toArray, List.set_cons_zero, List.set_cons_succ]
          refine wpAnyH_ready (rs := [6]) (by kernel_rfl) (by simp) ?_
          refine AllReadyH.cons rfl (fun K hK => ?_) AllReadyH.nil
          go_simp
          refine (seal_any P Q G H ra rn rc y m r HU.out.1.1 HU.out.2.1.1 HU.out.2.1.2 HU.out.2.2.1.1 HYU.out.1 HM.out HRU.out.1 HRU.out.2 _).mono ?_
          rintro e1 x1 ⟨rfl, hx1⟩
          rw [HSU.out, HSV.out]
          go_wp2_with fail
          replace hP := hP.same hx1
          refine hK.out _ _ ?_ (fun hHeld => ?_)
          · exact YS.same (by with_reducible assumption) (by with_reducible assumption)
          clear hK K
          try simp only [Act.put, List.getElem_toArray, List.getElem_cons_succ, List.getElem_cons_zero, List.setIfInBounds_toArray, List.set_cons_zero, List.set_cons_succ]
          refine wpAnyH_ready (rs := [8]) (by kernel_rfl) (by simp) ?_
          refine AllReadyH.cons rfl (fun K hK => ?_) AllReadyH.nil
          obtain ⟨d0, d1, d2, d3⟩ := hP
          have hP2 := (PairAt.mk d0 d1 d2 d3).put (.int .u64 su) (.int .u64 sv)
          go_simp
          refine hK.out _ _ ?_ (fun hHeld => ?_)
          · exact (YS.set hHeld hN.1 hN.2.1 hN.2.2 _).set hN.1 hN.2.1 hN.2.2 _
          clear hK K
          try simp only [Act.put, List.getElem_toArray, List.getElem_cons_succ, List.getElem_cons_zero, List.setIfInBounds_toArray, List.set_cons_zero, List.set_cons_succ]
          refine wpAnyH_done (by kernel_rfl) ?_ _
          go_wp2_with fail
          go_meet
          exact ⟨dx, rfl, hN.2.1, hN.2.2, hP2, hHeld.2⟩
      case rest =>
        obtain ⟨dx, e13, hdg, hdw, hP, hB8⟩ := hcut
        subst e13
        have HD := Lib.hid (And.intro hdg hdw)
        have HP := Lib.hid hP
        have HB8 := Lib.hid hB8
        clear hdg hdw hP hB8 HB7
        have hcb := HLIM.out.2.2.1
        go_upto_region 14 with fail
        go_cut [74, 75, 76] (fun s74 s75 s76 wx => ∃ pa pc, s74 = .slice pa (mm - 1) pc ∧ s75 = .int .i64 ((mm - 1 : Nat) : Int) ∧ s76 = .int .i64 0 ∧ (cb ≠ 1 → pa = some ⟨yb, yo + 1, none⟩) ∧ wc = wx)
        case first =>
          by_cases hc1 : cb = 1
          · go_wp2_with fail
            go_meet
            exact ⟨_, _, rfl, rfl, rfl, fun h => absurd hc1 h, rfl⟩
          · go_wp2_with fail
            go_meet
            exact ⟨_, _, rfl, rfl, rfl, fun _ => rfl, rfl⟩
        case rest =>
          obtain ⟨pa, pc, e74, e75, e76, hpa, ewc⟩ := hcut
          subst e74 e75 e76 ewc
          have HPA := Lib.hid hpa
          clear hpa
          obtain ⟨q, eq⟩ : ∃ q, mm - 1 = q := ⟨_, rfl⟩
          have HQ := Lib.hid eq
          rw [eq]
          have hq8 : q ≤ 8 := by omega
          have HN8 := Lib.hid n8
          clear eq hn0 hn1 d1 d2 d3 n8 m8 hcb
          go_wp2_with fail
          go_loopw [76] (fun s76 wr => ∃ (j : Nat) (cu cv : Int) (s : Nat), s76 = .int .i64 j ∧ j ≤ q ∧ PairAt wr dx (.int .u64 cu) (.int .u64 cv) ∧ Hid (SealedP P Q G y m cu cv s) ∧ Hid (BoxS w gx P Q G H ra rn rc wr)) (fun s76 _ => q - (intOf s76).toNat)
          case atStart => exact ⟨0, su, sv, r.toNat, rfl, by omega, HP.out, HSE, HB8⟩
          case round =>
            obtain ⟨j, cu, cv, s, rfl, hj, hp, hse, hbx⟩ := hrel
            obtain ⟨b0, b1, b2, b3, b4, hS⟩ := hbx.out
            have hcu := Lib.hid (show U64 cu ∧ U64 cv by have h1 := hse.out.u; have h2 := hse.out.v; have := HU.out.1.2; exact ⟨⟨by have := h1.1; omega, by have := h1.2.1; omega⟩, ⟨by have := h2.1; omega, by have := h2.2.1; omega⟩⟩)
            by_cases hlt : j < q
            · obtain ⟨yb2, yo2, hya2, hyc⟩ := (HY.out.same hS).cells (by have := HQ.out; omega)
              have hya3 := Option.some.inj hya2
              have hc := hyc (j + 1) (by have := HQ.out; omega)
              have hpe := HPA.out (by have := HLIM.out.2.2.1; have := HQ.out; omega)
              subst hpe
              injection hya3 with e1 e2 e3
              subst e1 e2
              rw [show yo + (j + 1) = yo + 1 + j by omega] at hc
              have hz := HY.out.bd (j + 1)
              obtain ⟨z, ez⟩ : ∃ z, ys.getD (j + 1) 0 = z := ⟨_, rfl⟩
              rw [ez] at hc hz
              have HZU := Lib.hid hz
              have hp0 := hp
              obtain ⟨p0, p1, p2, p3⟩ := hp0
              clear hya2 e3 hyc ez hz
              go_wp2_with fail
              refine (again_any P Q G H ra rn rc y cu cv z HU.out.1.1 HU.out.2.1.1 HU.out.2.1.2 HU.out.2.2.1.1 HYU.out.1 hcu.out.1 hcu.out.2 HZU.out.1 HZU.out.2 _).mono ?_
              rintro e1 w6 ⟨rfl, hT⟩
              have hse2 := Lib.hid (SealedP.again HR.out.grp HR.out.g HYE.out hse.out HZU.out.1)
              obtain ⟨nu, enu⟩ : ∃ k, prodI P [expI Q P G z, cu] = k := ⟨_, rfl⟩
              obtain ⟨nv, env⟩ : ∃ k, prodI P [cv, expI Q P y z] = k := ⟨_, rfl⟩
              rw [enu, env] at hse2 ⊢
              have hp2 := hp.same hT
              have hp3 := Lib.hid (hp2.put (.int .u64 nu) (.int .u64 nv))
              have hbx2 := Lib.hid ((BoxS.set (BoxS.same hbx.out hT) HD.out.1 HD.out.2 (.int .u64 nu) (o := 0)).set HD.out.1 HD.out.2 (.int .u64 nv) (o := 1))
              clear enu env p0 p1 p2 p3 b0 b1 b2 b3 b4 hS hc hT hse hbx hp
              obtain ⟨p0, p1, p2, p3⟩ := hp2
              go_wp2_with fail
              go_roundw
              case rel => exact ⟨j + 1, nu, nv, _, by go_num, by omega, hp3.out, hse2, hbx2⟩
              case measure => simp [intOf]; omega
            · obtain rfl : j = q := by omega
              have HBX := hbx
              have HPP := Lib.hid hp
              clear hbx hp b0 b1 b2 b3 b4 hS
              obtain ⟨b0, b1, b2, b3, b4, hS⟩ := HBX.out
              obtain ⟨p0, p1, p2, p3⟩ := HPP.out
              go_wp2_with fail
              generalize hwL : wr = wL at *
              clear hwL
              go_loopw [16, 88] (fun s16 s88 w9 => ∃ i : Nat, s88 = .int .i64 i ∧ i ≤ k ∧ OwnI w9 wL.heap.size s16 (partsI P Q cu (xs.take i)) ∧ Same wL w9) (fun _ s88 _ => k - (intOf s88).toNat)
              case atStart => exact ⟨0, rfl, by omega, OwnI.nil _ _, Same.refl _⟩
              case round =>
                obtain ⟨i, rfl, hi2, hown, hD⟩ := hrel
                by_cases hlt : i < k
                · obtain ⟨xb, xo, hxa, hxc⟩ := (HX.out.same (hS.trans hD)).cells (by omega)
                  have hc := hxc i hlt
                  subst hxa
                  have hz := HX.out.bd i
                  obtain ⟨z, ez⟩ : ∃ z, xs.getD i 0 = z := ⟨_, rfl⟩
                  have HZ := Lib.hid ez
                  rw [ez] at hc hz
                  have k0 := same_cell hD b0
                  have k1 := same_cell hD b1
                  have k2 := same_cell hD b2
                  have k3 := same_cell hD b3
                  have k4 := same_cell hD b4
                  have k5 := same_cell hD p0
                  have k6 := same_cell hD p1
                  clear hxc ez b0 b1 b2 b3 b4 p0 p1 p2 p3
                  have hi8 : i ≤ 8 := by have := HN8.out; omega
                  have hl1 : (partsI P Q cu (xs.take i)).length = i := by rw [partsI_len, List.length_take, HLX.out]; omega
                  go_wp2_with fail
                  refine (share_any P Q G H ra rn rc z cu cv HU.out.1.1 HU.out.2.1.1 HU.out.2.1.2 hcu.out.1.1 hz.1 hz.2 _).mono ?_
                  rintro e1 w7 ⟨rfl, hT⟩
                  have hown1 := hown.same hT
                  have hD1 := hD.trans hT
                  have hyu := expI_u Q P cu z
                  have HN := Lib.hid (show partsI P Q cu (xs.take (i + 1)) = partsI P Q cu (xs.take i) ++ [expI Q P cu z] by rw [take_snoc (by rw [HLX.out]; exact hlt), partsI_snoc, HZ.out])
                  obtain ⟨y2, ey2⟩ : ∃ y, expI Q P cu z = y := ⟨_, rfl⟩
                  rw [ey2] at hyu HN ⊢
                  clear ey2 hown hD hc k0 k1 k2 k3 k4 k5 k6 hT
                  go_wp2_with (first
                    | (at_builtin; refine wpList_append_own _ rfl _ _ 34 rfl wL.heap.size 22 i0 (.int .u64 0) 1 8 Try.underlying34 hi hz0 hz1 hz2 rfl (by decide) _ _ _ rfl (hown1.own.alloc _) ⟨w7.heap.size, 0, none⟩ 1 1 [.int .u64 y2] rfl rfl (one_new _ _ _) (one_cell _) (by rw [hl1]; unfold maxLen; omega) (by rw [hl1]; omega) (by have := hD1.size; simp; omega) ?_; intro v' w8 hown' hgrow _))
                  go_roundw
                  case rel => exact ⟨i + 1, by go_num, by omega, by rw [HN.out]; exact OwnI.push hown1.u hyu (by rw [hl1]; omega) hown', same_grown hD1 hown1 hgrow⟩
                  case measure => simp [intOf]; omega
                · obtain rfl : i = k := by omega
                  rw [List.take_of_length_le (by rw [HLX.out]; exact Nat.le_refl _)] at hown
                  obtain ⟨sa, sn, sc, rfl, hsi⟩ := hown.ints
                  have HSI := Lib.hid hsi
                  have HO := Lib.hid (show overI P cv (prodI P (partsI P Q cu xs)) = m from sealed_open HR.out.grp HR.out.g HE.out (getD_nonneg HX.out) (by rw [HEY.out]; exact hse.out))
                  have HBF := Lib.hid (BoxS.same HBX.out hD)
                  have k5 := same_cell hD p0
                  have k6 := same_cell hD p1
                  clear hsi hown hD b0 b1 b2 b3 b4 p0 p1 p2 p3 hS
                  obtain ⟨b0, b1, b2, b3, b4, hS⟩ := HBF.out
                  go_wp2_with fail
                  refine (open_any P Q G H ra rn rc cu cv sa sn sc _ HU.out.1.1 hcu.out.2.1 _ HSI.out).mono ?_
                  rintro e1 w7 ⟨rfl, hT⟩
                  rw [HO.out]
                  go_wp2_with fail
                  go_ret
                  exact ⟨rfl, hS.trans hT⟩
end Go.Proofs.Ytfoncfojljmimaa
