/- The walk of GamalSeals. -/
import Derived.Test.YtfoncfojljmimaaAwake5
import Derived.Test.YtfoncfojljmimaaGroup5
import Derived.Test.YtfoncfojljmimaaAllE
set_option linter.unusedVariables false
set_option linter.unusedSimpArgs false
namespace Go.Proofs.Ytfoncfojljmimaa
open Go.RowKit NT
theorem BoxC.base {W0 w : World} {bx cx : Nat} {P Q G H : Int} {ra : Option Addr} {rn rc : Nat} {cu cv : Int} (h : BoxC W0 bx cx P Q G H ra rn rc cu cv w) : Same W0 w := h.2.2.base
theorem ints_four (w : World) (t : TypeId) (a b c d : Int) (ha : U64 a) (hb : U64 b) (hc : U64 c) (hd : U64 d) : IntsAt (w.alloc (.cells #[.int .u64 a, .int .u64 b, .int .u64 c, .int .u64 d] t)) (some ⟨w.heap.size, 0, none⟩) 4 [a, b, c, d] := by
  refine ⟨rfl, by omega, fun _ => ⟨w.heap.size, 0, rfl, fun j hj => ?_⟩, fun j => ?_⟩
  · match j, hj with
    | 0, _ => simp [World.cell?_alloc_new]
    | 1, _ => simp [World.cell?_alloc_new]
    | 2, _ => simp [World.cell?_alloc_new]
    | 3, _ => simp [World.cell?_alloc_new]
  · match j with
    | 0 => exact ha
    | 1 => exact hb
    | 2 => exact hc
    | 3 => exact hd
    | _ + 4 => exact ⟨by simp, by simp⟩
abbrev SealsS (W0 : World) (bx cx lx : Nat) (P Q G H : Int) (ra : Option Addr) (rn rc : Nat) (cu cv y m r x : Int) (w : World) : Prop :=
  w.cell? ⟨lx, 0, none⟩ = some (.int .u64 y) ∧ w.cell? ⟨lx, 1, none⟩ = some (.int .u64 m) ∧ w.cell? ⟨lx, 2, none⟩ = some (.int .u64 r) ∧ w.cell? ⟨lx, 3, none⟩ = some (.int .u64 x) ∧ BoxC W0 bx cx P Q G H ra rn rc cu cv w
theorem SealsS.same {W0 w w' : World} {bx cx lx : Nat} {P Q G H : Int} {ra : Option Addr} {rn rc : Nat} {cu cv y m r x : Int} (h : SealsS W0 bx cx lx P Q G H ra rn rc cu cv y m r x w) (hs : Same w w') : SealsS W0 bx cx lx P Q G H ra rn rc cu cv y m r x w' :=
  ⟨same_cell hs h.1, same_cell hs h.2.1, same_cell hs h.2.2.1, same_cell hs h.2.2.2.1, h.2.2.2.2.same hs⟩
theorem par_seals (w : World) (P Q G H : Int) (ra : Option Addr) (rn rc : Nat) (cu cv y m r x : Int) : ∃ W bx cx lx, ((w.alloc (.cells #[.int .u64 P, .int .u64 Q, .int .u64 G, .int .u64 H, .slice ra rn rc] 25)).alloc (.cells #[.int .u64 cu, .int .u64 cv] 27)).alloc (.cells #[.int .u64 y, .int .u64 m, .int .u64 r, .int .u64 x] 38) = W ∧ w.heap.size = bx ∧ bx + 1 = cx ∧ cx + 1 = lx ∧
    SealsS w bx cx lx P Q G H ra rn rc cu cv y m r x W := by
  obtain ⟨W1, bx, cx, e1, e2, e3, hB, hc⟩ := par_gc w P Q G H ra rn rc cu cv
  have hz : W1.heap.size = cx + 1 := by rw [← e1, ← e3, ← e2]; simp
  have hS : Same W1 (W1.alloc (.cells #[.int .u64 y, .int .u64 m, .int .u64 r, .int .u64 x] 38)) := (Same.refl W1).alloc _
  have hc1 := hc.same hS
  refine ⟨_, bx, cx, cx + 1, by rw [e1], e2, e3, rfl, ?_, ?_, ?_, ?_, hc1.u, hc1.v, hB.same hS⟩ <;> rw [← hz] <;> simp [World.cell?_alloc_new]
set_option maxHeartbeats 3200000 in
theorem lawSeals (P Q G H : Int) (ra : Option Addr) (rn rc : Nat) (rs : List RowD) (cu cv y m r x : Int) (hP : U64 P) (hQ : U64 Q) (hG : U64 G) (hH : U64 H) (hu : U64 cu) (hv : U64 cv) (hy : U64 y) (hm : U64 m) (hr : U64 r) (hx : U64 x) (w : World) (h : RowsAt w ra rn rs) :
    Calls Try.prog 4 #[.agg #[.int .u64 P, .int .u64 Q, .int .u64 G, .int .u64 H, .slice ra rn rc], .agg #[.int .u64 cu, .int .u64 cv], .agg #[.int .u64 y, .int .u64 m, .int .u64 r, .int .u64 x]] w fun e w' => e = .returned (.bool true) ∧ Same w w' := by
  obtain ⟨W, bx, cx, lx, eW, eb, ec, el, hB⟩ := par_seals w P Q G H ra rn rc cu cv y m r x
  have EW := Lib.hid eW
  have EB := Lib.hid eb
  have EC := Lib.hid ec
  have EL := Lib.hid el
  have H1 := Lib.hid h
  have HU := Lib.hid (And.intro hP (And.intro hQ (And.intro hG hH)))
  have HUc := Lib.hid (And.intro hu hv)
  have HUl := Lib.hid (And.intro hy (And.intro hm (And.intro hr hx)))
  clear eW eb ec el h hP hQ hG hH hu hv hy hm hr hx
  go_enter Try.func4, Try.ntmps4
  go_upto_region 1 with fail
  rw [EW.out, EB.out, EC.out, EL.out]
  go_wp2_with fail
  refine (awake5 _).mono ?_
  rintro e1 w1 ⟨rfl, hS1⟩
  replace hB := hB.same hS1
  have hB0 := hB
  clear hS1
  go_upto_region 3 with fail
  go_region_held3 (fun w' => SealsS w bx cx lx P Q G H ra rn rc cu cv y m r x w')
    (first
      | (with_reducible refine SealsS.same (by assumption) (drew_same _))
      | assumption
      | go_keep)
    (fail)
  rename_i hHeld
  clear hB hB0
  obtain ⟨w2, e2⟩ : ∃ w2, w1.drew = w2 := ⟨_, rfl⟩
  rw [e2] at hHeld ⊢
  clear e2
  obtain ⟨_, _, _, _, p0, p1, b0, b1, b2, b3, b4, hS⟩ := hHeld
  have HB := Lib.hid (show BoxC w bx cx P Q G H ra rn rc cu cv w2 from ⟨p0, p1, b0, b1, b2, b3, b4, hS⟩)
  by_cases hg : GoodP P Q G H rs
  case neg =>
    have HG := Lib.hid (goodB_no hg)
    clear hg
    go_wp2_with fail
    refine (group5_any P Q G H ra rn rc rs HU.out.1 HU.out.2.1 HU.out.2.2.1 HU.out.2.2.2 _ (H1.out.same hS)).mono ?_
    rintro e1 w3 ⟨rfl, hT⟩
    rw [HG.out]
    go_wp2_with fail
    go_ret
    exact ⟨rfl, hS.trans hT⟩
  have HG := Lib.hid (goodB_yes hg)
  have HR := Lib.hid hg.2
  clear hg
  go_wp2_with fail
  refine (group5_any P Q G H ra rn rc rs HU.out.1 HU.out.2.1 HU.out.2.2.1 HU.out.2.2.2 _ (H1.out.same hS)).mono ?_
  rintro e1 w3 ⟨rfl, hT⟩
  rw [HG.out]
  replace HB := Lib.hid (HB.out.same hT)
  clear p0 p1 b0 b1 b2 b3 b4 hS
  obtain ⟨p0, p1, b0, b1, b2, b3, b4, hS⟩ := HB.out
  clear hT
  by_cases ha : AllE P Q [y, m, cu, cv]
  case neg =>
    have HA := Lib.hid (allB_no ha)
    clear ha
    go_wp2_with fail
    refine (all_any P Q G H ra rn rc _ 4 4 [y, m, cu, cv] HU.out.1.1 HU.out.2.1.1 HU.out.2.1.2 _ (ints_four _ _ _ _ _ _ HUl.out.1 HUl.out.2.1 HUc.out.1 HUc.out.2)).mono ?_
    rintro e1 w4 ⟨rfl, hT⟩
    rw [HA.out]
    go_wp2_with fail
    go_ret
    exact ⟨rfl, hS.trans (((Same.refl _).alloc _).trans hT)⟩
  have HA := Lib.hid (allB_yes ha)
  have HE := Lib.hid ha
  clear ha
  go_wp2_with fail
  refine (all_any P Q G H ra rn rc _ 4 4 [y, m, cu, cv] HU.out.1.1 HU.out.2.1.1 HU.out.2.1.2 _ (ints_four _ _ _ _ _ _ HUl.out.1 HUl.out.2.1 HUc.out.1 HUc.out.2)).mono ?_
  rintro e1 w4 ⟨rfl, hT⟩
  rw [HA.out]
  have HB4 := (HB.out.same ((Same.refl _).alloc _)).same hT
  clear p0 p1 b0 b1 b2 b3 b4 hS hT HB
  have hgp := HR.out.grp
  obtain ⟨k, ek⟩ : ∃ k, expI Q P G x = k := ⟨_, rfl⟩
  obtain ⟨s1, es1⟩ : ∃ k, expI Q P G r = k := ⟨_, rfl⟩
  obtain ⟨s2, es2⟩ : ∃ k, prodI P [m, expI Q P y r] = k := ⟨_, rfl⟩
  obtain ⟨a1, ea1⟩ : ∃ k, prodI P [expI Q P G r, cu] = k := ⟨_, rfl⟩
  obtain ⟨a2, ea2⟩ : ∃ k, prodI P [cv, expI Q P y r] = k := ⟨_, rfl⟩
  obtain ⟨sh, esh⟩ : ∃ k, expI Q P cu x = k := ⟨_, rfl⟩
  have ES3 := Lib.hid (show prodI P [1, expI Q P G r] = s1 by rw [prod_one hgp (exp_lt hgp _ _).1 (exp_lt hgp _ _).2, es1])
  have EA3 := Lib.hid (show prodI P [cu, expI Q P G r] = a1 by rw [prod_comm hgp, ea1])
  have EK := Lib.hid ek
  have ES1 := Lib.hid es1
  have ES2 := Lib.hid es2
  have EA1 := Lib.hid ea1
  have EA2 := Lib.hid ea2
  have EH := Lib.hid esh
  clear hgp ek es1 es2 ea1 ea2 esh
  go_upto_region 6 with fail
  go_region_held3 (fun w' => BoxC w bx cx P Q G H ra rn rc cu cv w')
    (first
      | (with_reducible refine BoxC.same (by assumption) (drew_same _))
      | (with_reducible refine BoxC.same (by assumption) ?_; with_reducible assumption)
      | assumption
      | go_keep)
    (first
      | (go_at_call 16; refine (key_any P Q G H ra rn rc x HU.out.1.1 HU.out.2.1.1 HU.out.2.1.2 HU.out.2.2.1.1 HUl.out.2.2.2.1 HUl.out.2.2.2.2 _).mono ?_; rintro e1 w3 ⟨rfl, hT3⟩; rw [EK.out])
      | (go_at_call 17; refine (rkey_any P Q G H ra rn rc x HU.out.1.1 HU.out.2.1.1 HU.out.2.1.2 HU.out.2.2.1.1 HUl.out.2.2.2.1 HUl.out.2.2.2.2 _).mono ?_; rintro e1 w3 ⟨rfl, hT3⟩; rw [EK.out])
      | (go_at_call 18; refine (seal_any P Q G H ra rn rc y m r HU.out.1.1 HU.out.2.1.1 HU.out.2.1.2 HU.out.2.2.1.1 HUl.out.1.1 HUl.out.2.1 HUl.out.2.2.1.1 HUl.out.2.2.1.2 _).mono ?_; rintro e1 w3 ⟨rfl, hT3⟩; rw [ES1.out, ES2.out])
      | (go_at_call 19; refine (rseal_any P Q G H ra rn rc y m r HU.out.1.1 HU.out.2.1.1 HU.out.2.1.2 HU.out.2.2.1.1 HUl.out.1.1 HUl.out.2.1 HUl.out.2.2.1.1 HUl.out.2.2.1.2 _).mono ?_; rintro e1 w3 ⟨rfl, hT3⟩; rw [ES3.out, ES2.out])
      | (go_at_call 20; refine (again_any P Q G H ra rn rc y cu cv r HU.out.1.1 HU.out.2.1.1 HU.out.2.1.2 HU.out.2.2.1.1 HUl.out.1.1 HUc.out.1 HUc.out.2 HUl.out.2.2.1.1 HUl.out.2.2.1.2 _).mono ?_; rintro e1 w3 ⟨rfl, hT3⟩; rw [EA1.out, EA2.out])
      | (go_at_call 21; refine (ragain_any P Q G H ra rn rc y cu cv r HU.out.1.1 HU.out.2.1.1 HU.out.2.1.2 HU.out.2.2.1.1 HUl.out.1.1 HUc.out.1 HUc.out.2 HUl.out.2.2.1.1 HUl.out.2.2.1.2 _).mono ?_; rintro e1 w3 ⟨rfl, hT3⟩; rw [EA3.out, EA2.out])
      | (go_at_call 14; refine (share_any P Q G H ra rn rc x cu cv HU.out.1.1 HU.out.2.1.1 HU.out.2.1.2 HUc.out.1.1 HUl.out.2.2.2.1 HUl.out.2.2.2.2 _).mono ?_; rintro e1 w3 ⟨rfl, hT3⟩; rw [EH.out])
      | (go_at_call 22; refine (rshare_any P Q G H ra rn rc x cu cv HU.out.1.1 HU.out.2.1.1 HU.out.2.1.2 HUc.out.1.1 HUl.out.2.2.2.1 HUl.out.2.2.2.2 _).mono ?_; rintro e1 w3 ⟨rfl, hT3⟩; rw [EH.out]))
  rename_i hHeld
  go_wp2_with fail
  go_ret
  exact ⟨rfl, hHeld.base⟩
end Go.Proofs.Ytfoncfojljmimaa
