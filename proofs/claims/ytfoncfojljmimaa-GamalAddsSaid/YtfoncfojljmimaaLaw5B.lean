/- The walk of GamalAdds. -/
import Derived.Test.YtfoncfojljmimaaAwake5
import Derived.Test.YtfoncfojljmimaaW6
import Derived.Test.YtfoncfojljmimaaGamL
set_option linter.unusedVariables false
set_option linter.unusedSimpArgs false
namespace Go.Proofs.Ytfoncfojljmimaa
open Go.RowKit NT
theorem wrap_u64 {a : Int} (h0 : 0 ≤ a) (h1 : a < 18446744073709551616) : IntKind.u64.wrap a = a := by
  obtain ⟨n, rfl⟩ := Int.eq_ofNat_of_zero_le h0
  exact DivN.wrap_nat n (by omega)
theorem BoxC.base {W0 w : World} {bx cx : Nat} {P Q G H : Int} {ra : Option Addr} {rn rc : Nat} {cu cv : Int} (h : BoxC W0 bx cx P Q G H ra rn rc cu cv w) : Same W0 w := h.2.2.base
theorem ints_tri (w : World) (t : TypeId) (a b c : Int) (ha : U64 a) (hb : U64 b) (hc : U64 c) : IntsAt (w.alloc (.cells #[.int .u64 a, .int .u64 b, .int .u64 c] t)) (some ⟨w.heap.size, 0, none⟩) 3 [a, b, c] := by
  refine ⟨rfl, by omega, fun _ => ⟨w.heap.size, 0, rfl, fun j hj => ?_⟩, fun j => ?_⟩
  · match j, hj with
    | 0, _ => simp [World.cell?_alloc_new]
    | 1, _ => simp [World.cell?_alloc_new]
    | 2, _ => simp [World.cell?_alloc_new]
  · match j with
    | 0 => exact ha
    | 1 => exact hb
    | 2 => exact hc
    | _ + 3 => exact ⟨by simp, by simp⟩
abbrev AddsS (W0 : World) (bx cx lx : Nat) (P Q G H : Int) (ra : Option Addr) (rn rc : Nat) (cu cv y r0 s0 : Int) (w : World) : Prop :=
  w.cell? ⟨lx, 0, none⟩ = some (.int .u64 y) ∧ w.cell? ⟨lx, 1, none⟩ = some (.int .u64 r0) ∧ w.cell? ⟨lx, 2, none⟩ = some (.int .u64 s0) ∧ BoxC W0 bx cx P Q G H ra rn rc cu cv w
theorem AddsS.same {W0 w w' : World} {bx cx lx : Nat} {P Q G H : Int} {ra : Option Addr} {rn rc : Nat} {cu cv y r0 s0 : Int} (h : AddsS W0 bx cx lx P Q G H ra rn rc cu cv y r0 s0 w) (hs : Same w w') : AddsS W0 bx cx lx P Q G H ra rn rc cu cv y r0 s0 w' :=
  ⟨same_cell hs h.1, same_cell hs h.2.1, same_cell hs h.2.2.1, h.2.2.2.same hs⟩
theorem par_adds (w : World) (P Q G H : Int) (ra : Option Addr) (rn rc : Nat) (cu cv y r0 s0 : Int) : ∃ W bx cx lx, ((w.alloc (.cells #[.int .u64 P, .int .u64 Q, .int .u64 G, .int .u64 H, .slice ra rn rc] 25)).alloc (.cells #[.int .u64 cu, .int .u64 cv] 27)).alloc (.cells #[.int .u64 y, .int .u64 r0, .int .u64 s0] 43) = W ∧ w.heap.size = bx ∧ bx + 1 = cx ∧ cx + 1 = lx ∧
    AddsS w bx cx lx P Q G H ra rn rc cu cv y r0 s0 W := by
  obtain ⟨W1, bx, cx, e1, e2, e3, hB, hc⟩ := par_gc w P Q G H ra rn rc cu cv
  have hz : W1.heap.size = cx + 1 := by rw [← e1, ← e3, ← e2]; simp
  have hS : Same W1 (W1.alloc (.cells #[.int .u64 y, .int .u64 r0, .int .u64 s0] 43)) := (Same.refl W1).alloc _
  have hc1 := hc.same hS
  refine ⟨_, bx, cx, cx + 1, by rw [e1], e2, e3, rfl, ?_, ?_, ?_, hc1.u, hc1.v, hB.same hS⟩ <;> rw [← hz] <;> simp [World.cell?_alloc_new]
set_option maxHeartbeats 3200000 in
theorem lawAdds (P Q G H : Int) (ra : Option Addr) (rn rc : Nat) (rs : List RowD) (cu cv y r0 s0 : Int) (hP : U64 P) (hQ : U64 Q) (hG : U64 G) (hH : U64 H) (hu : U64 cu) (hv : U64 cv) (hy : U64 y) (hr : U64 r0) (hs : U64 s0) (w : World) (h : RowsAt w ra rn rs) :
    Calls Try.prog 5 #[.agg #[.int .u64 P, .int .u64 Q, .int .u64 G, .int .u64 H, .slice ra rn rc], .agg #[.int .u64 cu, .int .u64 cv], .agg #[.int .u64 y, .int .u64 r0, .int .u64 s0]] w fun e w' => e = .returned (.bool true) ∧ Same w w' := by
  obtain ⟨W, bx, cx, lx, eW, eb, ec, el, hB⟩ := par_adds w P Q G H ra rn rc cu cv y r0 s0
  have EW := Lib.hid eW
  have EB := Lib.hid eb
  have EC := Lib.hid ec
  have EL := Lib.hid el
  have H1 := Lib.hid h
  have HU := Lib.hid (And.intro hP (And.intro hQ (And.intro hG hH)))
  have HUc := Lib.hid (And.intro hu hv)
  have HUl := Lib.hid (And.intro hy (And.intro hr hs))
  clear eW eb ec el h hP hQ hG hH hu hv hy hr hs
  go_enter Try.func5, Try.ntmps5
  go_upto_region 1 with fail
  rw [EW.out, EB.out, EC.out, EL.out]
  go_wp2_with fail
  refine (awake5 _).mono ?_
  rintro e1 w1 ⟨rfl, hS1⟩
  replace hB := hB.same hS1
  have hB0 := hB
  clear hS1
  go_upto_region 3 with fail
  go_region_held3 (fun w' => AddsS w bx cx lx P Q G H ra rn rc cu cv y r0 s0 w')
    (first
      | (with_reducible refine AddsS.same (by assumption) (drew_same _))
      | assumption
      | go_keep)
    (fail)
  rename_i hHeld
  clear hB hB0
  obtain ⟨r, er⟩ : ∃ r, r0 / 4 = r := ⟨_, rfl⟩
  obtain ⟨s, es⟩ : ∃ s, s0 / 4 = s := ⟨_, rfl⟩
  have hr1 : 0 ≤ r ∧ r < 4611686018427387904 := by have h1 := HUl.out.2.1; unfold U64 at h1; omega
  have hs1 : 0 ≤ s ∧ s < 4611686018427387904 := by have h1 := HUl.out.2.2; unfold U64 at h1; omega
  rw [er, es]
  have HR1 : Hid (0 ≤ r ∧ r < 18446744073709551616) := Lib.hid (by omega)
  have HS1 : Hid (0 ≤ s ∧ s < 18446744073709551616) := Lib.hid (by omega)
  have HRS : Hid (0 ≤ r + s ∧ r + s < 18446744073709551616) := Lib.hid (by omega)
  have hwr : IntKind.u64.wrap (r + s) = r + s := wrap_u64 (by omega) (by omega)
  clear er es hr1 hs1
  obtain ⟨w2, e2⟩ : ∃ w2, w1.drew = w2 := ⟨_, rfl⟩
  rw [e2] at hHeld ⊢
  clear e2
  obtain ⟨_, _, _, p0, p1, b0, b1, b2, b3, b4, hS⟩ := hHeld
  have HB := Lib.hid (show BoxC w bx cx P Q G H ra rn rc cu cv w2 from ⟨p0, p1, b0, b1, b2, b3, b4, hS⟩)
  by_cases hg : GoodP P Q G H rs
  case neg =>
    have HG := Lib.hid (goodB_no hg)
    clear hg
    go_wp2_with fail
    refine (group5_any P Q G H ra rn rc rs HU.out.1 HU.out.2.1 HU.out.2.2.1 HU.out.2.2.2 _ (H1.out.same hS)).mono ?_
    rintro e1 w3 ⟨rfl, hT⟩
    rw [HG.out]
    go_wp2_with fail
    go_ret
    exact ⟨rfl, hS.trans hT⟩
  have HG := Lib.hid (goodB_yes hg)
  have HR := Lib.hid hg.2
  clear hg
  go_wp2_with fail
  refine (group5_any P Q G H ra rn rc rs HU.out.1 HU.out.2.1 HU.out.2.2.1 HU.out.2.2.2 _ (H1.out.same hS)).mono ?_
  rintro e1 w3 ⟨rfl, hT⟩
  rw [HG.out]
  replace HB := Lib.hid (HB.out.same hT)
  clear p0 p1 b0 b1 b2 b3 b4 hS
  obtain ⟨p0, p1, b0, b1, b2, b3, b4, hS⟩ := HB.out
  clear hT
  by_cases ha : AllE P Q [y, cu, cv]
  case neg =>
    have HA := Lib.hid (allB_no ha)
    clear ha
    go_wp2_with fail
    refine (all_any P Q G H ra rn rc _ 3 3 [y, cu, cv] HU.out.1.1 HU.out.2.1.1 HU.out.2.1.2 _ (ints_tri _ _ _ _ _ HUl.out.1 HUc.out.1 HUc.out.2)).mono ?_
    rintro e1 w4 ⟨rfl, hT⟩
    rw [HA.out]
    go_wp2_with fail
    go_ret
    exact ⟨rfl, hS.trans (((Same.refl _).alloc _).trans hT)⟩
  have HA := Lib.hid (allB_yes ha)
  have HE := Lib.hid ha
  clear ha
  go_wp2_with fail
  refine (all_any P Q G H ra rn rc _ 3 3 [y, cu, cv] HU.out.1.1 HU.out.2.1.1 HU.out.2.1.2 _ (ints_tri _ _ _ _ _ HUl.out.1 HUc.out.1 HUc.out.2)).mono ?_
  rintro e1 w4 ⟨rfl, hT⟩
  rw [HA.out]
  have HB4 := (HB.out.same ((Same.refl _).alloc _)).same hT
  clear p0 p1 b0 b1 b2 b3 b4 hS hT HB
  have hgp := HR.out.grp
  have hy := HE.out y (by simp)
  have hcu := HE.out cu (by simp)
  have hcv := HE.out cv (by simp)
  have hg := HR.out.g
  obtain ⟨a1, ea1⟩ : ∃ k, prodI P [expI Q P G r, cu] = k := ⟨_, rfl⟩
  obtain ⟨a2, ea2⟩ : ∃ k, prodI P [cv, expI Q P y r] = k := ⟨_, rfl⟩
  obtain ⟨b1, eb1⟩ : ∃ k, prodI P [expI Q P G s, a1] = k := ⟨_, rfl⟩
  obtain ⟨b2, eb2⟩ : ∃ k, prodI P [a2, expI Q P y s] = k := ⟨_, rfl⟩
  have HA12 := Lib.hid (show U64 a1 ∧ U64 a2 by rw [← ea1, ← ea2]; exact ⟨prodI_u _ _, prodI_u _ _⟩)
  have EB3 := Lib.hid (show prodI P [expI Q P G (r + s), cu] = b1 by rw [← again_u hgp hg HR1.out.1 HS1.out.1, ea1, eb1])
  have EB4 := Lib.hid (show prodI P [cv, expI Q P y (r + s)] = b2 by rw [← again_v hgp hy HR1.out.1 HS1.out.1, ea2, eb2])
  have EZ1 := Lib.hid (show prodI P [expI Q P G 0, cu] = cu by rw [exp_zero hgp hg, prod_one hgp HUc.out.1.1 hcu.2.1])
  have EZ2 := Lib.hid (show prodI P [cv, expI Q P y 0] = cv by rw [exp_zero hgp hy, prod_one_r hgp HUc.out.2.1 hcv.2.1])
  have EQ1 := Lib.hid (show prodI P [expI Q P G Q, cu] = cu by rw [exp_q hgp hg, prod_one hgp HUc.out.1.1 hcu.2.1])
  have EQ2 := Lib.hid (show prodI P [cv, expI Q P y Q] = cv by rw [exp_q hgp hy, prod_one_r hgp HUc.out.2.1 hcv.2.1])
  have EA1 := Lib.hid ea1
  have EA2 := Lib.hid ea2
  have EB1 := Lib.hid eb1
  have EB2 := Lib.hid eb2
  clear hgp hy hcu hcv hg ea1 ea2 eb1 eb2
  have HC0 : Hid (∀ w, Calls Try.prog 20 #[.agg #[.int .u64 P, .int .u64 Q, .int .u64 G, .int .u64 H, .slice ra rn rc], .int .u64 y, .agg #[.int .u64 cu, .int .u64 cv], .int .u64 (r)] w fun z w' => z = .returned (.agg #[.int .u64 a1, .int .u64 a2]) ∧ Same w w') :=
    Lib.hid (fun w => by have h := again_any P Q G H ra rn rc y cu cv r HU.out.1.1 HU.out.2.1.1 HU.out.2.1.2 HU.out.2.2.1.1 HUl.out.1.1 HUc.out.1 HUc.out.2 HR1.out.1 HR1.out.2 w; rw [EA1.out, EA2.out] at h; exact h)
  have HC1 : Hid (∀ w, Calls Try.prog 20 #[.agg #[.int .u64 P, .int .u64 Q, .int .u64 G, .int .u64 H, .slice ra rn rc], .int .u64 y, .agg #[.int .u64 a1, .int .u64 a2], .int .u64 (s)] w fun z w' => z = .returned (.agg #[.int .u64 b1, .int .u64 b2]) ∧ Same w w') :=
    Lib.hid (fun w => by have h := again_any P Q G H ra rn rc y a1 a2 s HU.out.1.1 HU.out.2.1.1 HU.out.2.1.2 HU.out.2.2.1.1 HUl.out.1.1 HA12.out.1 HA12.out.2 HS1.out.1 HS1.out.2 w; rw [EB1.out, EB2.out] at h; exact h)
  have HC2 : Hid (∀ w, Calls Try.prog 20 #[.agg #[.int .u64 P, .int .u64 Q, .int .u64 G, .int .u64 H, .slice ra rn rc], .int .u64 y, .agg #[.int .u64 cu, .int .u64 cv], .int .u64 (r + s)] w fun z w' => z = .returned (.agg #[.int .u64 b1, .int .u64 b2]) ∧ Same w w') :=
    Lib.hid (fun w => by have h := again_any P Q G H ra rn rc y cu cv (r + s) HU.out.1.1 HU.out.2.1.1 HU.out.2.1.2 HU.out.2.2.1.1 HUl.out.1.1 HUc.out.1 HUc.out.2 HRS.out.1 HRS.out.2 w; rw [EB3.out, EB4.out] at h; exact h)
  have HC3 : Hid (∀ w, Calls Try.prog 20 #[.agg #[.int .u64 P, .int .u64 Q, .int .u64 G, .int .u64 H, .slice ra rn rc], .int .u64 y, .agg #[.int .u64 cu, .int .u64 cv], .int .u64 (0)] w fun z w' => z = .returned (.agg #[.int .u64 cu, .int .u64 cv]) ∧ Same w w') :=
    Lib.hid (fun w => by have h := again_any P Q G H ra rn rc y cu cv 0 HU.out.1.1 HU.out.2.1.1 HU.out.2.1.2 HU.out.2.2.1.1 HUl.out.1.1 HUc.out.1 HUc.out.2 (by decide) (by decide) w; rw [EZ1.out, EZ2.out] at h; exact h)
  have HC4 : Hid (∀ w, Calls Try.prog 20 #[.agg #[.int .u64 P, .int .u64 Q, .int .u64 G, .int .u64 H, .slice ra rn rc], .int .u64 y, .agg #[.int .u64 cu, .int .u64 cv], .int .u64 (Q)] w fun z w' => z = .returned (.agg #[.int .u64 cu, .int .u64 cv]) ∧ Same w w') :=
    Lib.hid (fun w => by have h := again_any P Q G H ra rn rc y cu cv Q HU.out.1.1 HU.out.2.1.1 HU.out.2.1.2 HU.out.2.2.1.1 HUl.out.1.1 HUc.out.1 HUc.out.2 HU.out.2.1.1 HU.out.2.1.2 w; rw [EQ1.out, EQ2.out] at h; exact h)
  go_upto_region 6 with fail
  go_region_held3 (fun w' => BoxC w bx cx P Q G H ra rn rc cu cv w')
    (first
      | (with_reducible refine BoxC.same (by assumption) (drew_same _))
      | (with_reducible refine BoxC.same (by assumption) ?_; with_reducible assumption)
      | assumption
      | go_keep)
    (first
      | (go_at_call 20; with_reducible refine (HC0.out _).mono ?_; rintro e1 w3 ⟨rfl, hT3⟩)
      | (go_at_call 20; with_reducible refine (HC1.out _).mono ?_; rintro e1 w3 ⟨rfl, hT3⟩)
      | (go_at_call 20; with_reducible refine (HC2.out _).mono ?_; rintro e1 w3 ⟨rfl, hT3⟩)
      | (go_at_call 20; with_reducible refine (HC3.out _).mono ?_; rintro e1 w3 ⟨rfl, hT3⟩)
      | (go_at_call 20; with_reducible refine (HC4.out _).mono ?_; rintro e1 w3 ⟨rfl, hT3⟩)
      | fail)
  rename_i hHeld
  go_wp2_with fail
  go_ret
  exact ⟨rfl, hHeld.base⟩
end Go.Proofs.Ytfoncfojljmimaa
