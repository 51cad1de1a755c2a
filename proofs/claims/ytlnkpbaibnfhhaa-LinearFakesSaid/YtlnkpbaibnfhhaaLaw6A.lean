/- The walk of LinearAnswers. -/
import Derived.Test.YtlnkpbaibnfhhaaLinRFour
import Derived.Test.YtlnkpbaibnfhhaaAwake6
import Derived.Test.YtlnkpbaibnfhhaaW5
set_option linter.unusedVariables false
set_option linter.unusedSimpArgs false
namespace Go.Proofs.Ytlnkpbaibnfhhaa
open Go.RowKit NT
/-- the group's box, and a talk's -/
abbrev TkS (W0 : World) (gx ax : Nat) (P Q G H : Int) (ra : Option Addr) (rn rc : Nat) (e : Int) (u v : Value) (w : World) : Prop := w.cell? ⟨ax, 0, none⟩ = some (.int .u64 e) ∧ w.cell? ⟨ax, 1, none⟩ = some u ∧ w.cell? ⟨ax, 2, none⟩ = some v ∧ BoxS W0 gx P Q G H ra rn rc w
theorem TkS.same {W0 w w' : World} {gx ax : Nat} {P Q G H : Int} {ra : Option Addr} {rn rc : Nat} {e : Int} {u v : Value} (h : TkS W0 gx ax P Q G H ra rn rc e u v w) (hs : Same w w') : TkS W0 gx ax P Q G H ra rn rc e u v w' := ⟨same_cell hs h.1, same_cell hs h.2.1, same_cell hs h.2.2.1, h.2.2.2.same hs⟩
theorem par_talk (w : World) (P Q G H : Int) (ra : Option Addr) (rn rc : Nat) (e : Int) (u v : Value) : ∃ W gx ax, (w.alloc (.cells #[.int .u64 P, .int .u64 Q, .int .u64 G, .int .u64 H, .slice ra rn rc] 25)).alloc (.cells #[.int .u64 e, u, v] 39) = W ∧ w.heap.size = gx ∧ gx + 1 = ax ∧ TkS w gx ax P Q G H ra rn rc e u v W := by
  obtain ⟨W1, gx, e1, e2, hS, c0, c1, c2, c3, c4⟩ := par_box w P Q G H (.slice ra rn rc)
  have hz : W1.heap.size = gx + 1 := by rw [← e1, ← e2]; simp
  have hS1 : Same W1 (W1.alloc (.cells #[.int .u64 e, u, v] 39)) := (Same.refl W1).alloc _
  exact ⟨_, gx, gx + 1, by rw [e1], e2, rfl, by rw [← hz]; simp [World.cell?_alloc_new], by rw [← hz]; simp [World.cell?_alloc_new], by rw [← hz]; simp [World.cell?_alloc_new], same_cell hS1 c0, same_cell hS1 c1, same_cell hS1 c2, same_cell hS1 c3, same_cell hS1 c4, hS.trans hS1⟩
set_option maxRecDepth 100000 in
set_option maxHeartbeats 6400000 in
theorem lawAnswers (P Q G H : Int) (ra : Option Addr) (rn rc : Nat) (rs : List RowD) (e f : Int) (xa ya : Option Addr) (xn xc yn yc : Nat) (xs ys : List Int) (hP : U64 P) (hQ : U64 Q) (hG : U64 G) (hH : U64 H) (he : U64 e) (hf : U64 f) (w : World) (h : RowsAt w ra rn rs) (hx : IntsAt w xa xn xs) (hy : IntsAt w ya yn ys) :
    Calls Try.prog 6 #[.agg #[.int .u64 P, .int .u64 Q, .int .u64 G, .int .u64 H, .slice ra rn rc], .agg #[.int .u64 e, .slice xa xn xc, .slice ya yn yc], .int .u64 f] w fun e w' => e = .returned (.bool true) ∧ Same w w' := by
  obtain ⟨W, gx, ax, eW, eg, ea, hB⟩ := par_talk w P Q G H ra rn rc e (.slice xa xn xc) (.slice ya yn yc)
  have EW := Lib.hid eW
  have EG := Lib.hid eg
  have EA := Lib.hid ea
  have H1 := Lib.hid h
  have HX := Lib.hid hx
  have HY := Lib.hid hy
  have HSZ := Lib.hid (And.intro hx.small hy.small)
  have HU := Lib.hid (And.intro hP (And.intro hQ (And.intro hG hH)))
  have HE := Lib.hid (And.intro he hf)
  clear eW eg ea h hx hy hP hQ hG hH he hf
  obtain ⟨lb, elb⟩ : ∃ b, lenB xs ys = b := ⟨_, rfl⟩
  obtain ⟨eb, eeb⟩ : ∃ b, extB Q e f xs ys = b := ⟨_, rfl⟩
  have LB := Lib.hid elb
  have EB := Lib.hid eeb
  have SM0 := Lib.hid (sameB_yes (xs := eachS (ansF Q e) xs ys) (ys := eachS (ransF Q e) xs ys) (each_congr (fun a b => (ransF_eq Q e a b).symm)))
  have SM1 := Lib.hid (sameB_yes (xs := eachS (drwF Q e) xs ys) (ys := eachS (drwF Q e) xs ys) rfl)
  have SM2 := Lib.hid (sameB_yes (xs := extL Q e f xs ys) (ys := extL Q e f xs ys) rfl)
  clear elb eeb
  go_enter Try.func6, Try.ntmps6
  go_upto_region 1 with fail
  rw [EW.out, EG.out, EA.out]
  go_wp2_with fail
  refine (awake6 _).mono ?_
  rintro e1 w1 ⟨rfl, hT⟩
  have HB := Lib.hid (TkS.same hB hT)
  clear hB hT
  obtain ⟨t0, t1, t2, b0, b1, b2, b3, b4, hS⟩ := HB.out
  go_wp2_with fail
  refine (group5_any P Q G H ra rn rc rs HU.out.1 HU.out.2.1 HU.out.2.2.1 HU.out.2.2.2 _ (H1.out.same hS)).mono ?_
  rintro e1 w2 ⟨rfl, hT⟩
  by_cases hg : GoodP P Q G H rs
  case neg =>
    rw [goodB_no hg]
    clear hg
    go_wp2_with fail
    go_ret
    exact ⟨rfl, hS.trans hT⟩
  rw [goodB_yes hg]
  replace HB := Lib.hid (TkS.same HB.out hT)
  clear hg t0 t1 t2 b0 b1 b2 b3 b4 hS hT
  obtain ⟨t0, t1, t2, b0, b1, b2, b3, b4, hS⟩ := HB.out
  have hsx := HSZ.out.1
  have hsy := HSZ.out.2
  by_cases hx80 : 80 < xn
  · have d1 : decide ((80 : Int) < xn) = true := decide_eq_true (by omega)
    go_wp2_with fail
    go_ret
    exact ⟨rfl, hS⟩
  have d1 : decide ((80 : Int) < xn) = false := decide_eq_false (by omega)
  by_cases hy80 : 80 < yn
  · have d2 : decide ((80 : Int) < yn) = true := decide_eq_true (by omega)
    go_wp2_with fail
    go_ret
    exact ⟨rfl, hS⟩
  have d2 : decide ((80 : Int) < yn) = false := decide_eq_false (by omega)
  have hx8 : xn ≤ 1000 := by omega
  clear hsx hsy
  go_wp2_with fail
  refine (ans_any P Q G H ra rn rc e xa ya xn xc yn yc xs ys HU.out.1 HU.out.2.1 HE.out.1 hx8 _ (HX.out.same hS) (HY.out.same hS)).mono ?_
  rintro e1 wA ⟨aA, nA, cA, rfl, hi, hT⟩
  rw [LB.out]
  have IA := Lib.hid hi
  replace HB := Lib.hid (TkS.same HB.out hT)
  clear t0 t1 t2 b0 b1 b2 b3 b4 hS hi hT
  obtain ⟨t0, t1, t2, b0, b1, b2, b3, b4, hS⟩ := HB.out
  go_wp2_with fail
  refine (rans_any P Q G H ra rn rc e xa ya xn xc yn yc xs ys HU.out.1 HU.out.2.1 HE.out.1 hx8 _ (HX.out.same hS) (HY.out.same hS)).mono ?_
  rintro e1 wB ⟨aB, nB, cB, rfl, hi, hT⟩
  rw [LB.out]
  have IB := Lib.hid hi
  replace IA := Lib.hid (IA.out.same hT)
  replace HB := Lib.hid (TkS.same HB.out hT)
  clear t0 t1 t2 b0 b1 b2 b3 b4 hS hi hT
  obtain ⟨t0, t1, t2, b0, b1, b2, b3, b4, hS⟩ := HB.out
  go_wp2_with fail
  refine (drw_any P Q G H ra rn rc e xa ya xn xc yn yc xs ys HU.out.1 HU.out.2.1 HE.out.1 hx8 _ (HX.out.same hS) (HY.out.same hS)).mono ?_
  rintro e1 wC ⟨aC, nC, cC, rfl, hi, hT⟩
  rw [LB.out]
  have IC := Lib.hid hi
  replace IA := Lib.hid (IA.out.same hT)
  replace IB := Lib.hid (IB.out.same hT)
  replace HB := Lib.hid (TkS.same HB.out hT)
  clear t0 t1 t2 b0 b1 b2 b3 b4 hS hi hT
  obtain ⟨t0, t1, t2, b0, b1, b2, b3, b4, hS⟩ := HB.out
  go_wp2_with fail
  refine (rdrw_any P Q G H ra rn rc e xa ya xn xc yn yc xs ys HU.out.1 HU.out.2.1 HE.out.1 hx8 _ (HX.out.same hS) (HY.out.same hS)).mono ?_
  rintro e1 wD ⟨aD, nD, cD, rfl, hi, hT⟩
  rw [LB.out]
  have ID := Lib.hid hi
  replace IA := Lib.hid (IA.out.same hT)
  replace IB := Lib.hid (IB.out.same hT)
  replace IC := Lib.hid (IC.out.same hT)
  replace HB := Lib.hid (TkS.same HB.out hT)
  clear t0 t1 t2 b0 b1 b2 b3 b4 hS hi hT
  obtain ⟨t0, t1, t2, b0, b1, b2, b3, b4, hS⟩ := HB.out
  go_wp2_with fail
  refine (extract_any P Q G H ra rn rc e f xa ya xn xc yn yc xs ys HU.out.1 HU.out.2.1 HE.out.1 HE.out.2 hx8 _ (HX.out.same hS) (HY.out.same hS)).mono ?_
  rintro e1 wE ⟨aE, nE, cE, rfl, hi, hT⟩
  rw [EB.out]
  have IE := Lib.hid hi
  replace IA := Lib.hid (IA.out.same hT)
  replace IB := Lib.hid (IB.out.same hT)
  replace IC := Lib.hid (IC.out.same hT)
  replace ID := Lib.hid (ID.out.same hT)
  replace HB := Lib.hid (TkS.same HB.out hT)
  clear t0 t1 t2 b0 b1 b2 b3 b4 hS hi hT
  obtain ⟨t0, t1, t2, b0, b1, b2, b3, b4, hS⟩ := HB.out
  go_wp2_with fail
  refine (rextract_any P Q G H ra rn rc e f xa ya xn xc yn yc xs ys HU.out.1 HU.out.2.1 HE.out.1 HE.out.2 hx8 _ (HX.out.same hS) (HY.out.same hS)).mono ?_
  rintro e1 wF ⟨aF, nF, cF, rfl, hi, hT⟩
  rw [EB.out]
  have IF := Lib.hid hi
  replace IA := Lib.hid (IA.out.same hT)
  replace IB := Lib.hid (IB.out.same hT)
  replace IC := Lib.hid (IC.out.same hT)
  replace ID := Lib.hid (ID.out.same hT)
  replace IE := Lib.hid (IE.out.same hT)
  replace HB := Lib.hid (TkS.same HB.out hT)
  clear t0 t1 t2 b0 b1 b2 b3 b4 hS hi hT
  obtain ⟨t0, t1, t2, b0, b1, b2, b3, b4, hS⟩ := HB.out
  go_wp2_with fail
  refine (rsame_any aA aB nA nB cA cB _ _ _ IA.out IB.out).mono ?_
  rintro e1 v0 ⟨rfl, hT⟩
  rw [SM0.out]
  replace IC := Lib.hid (IC.out.same hT)
  replace ID := Lib.hid (ID.out.same hT)
  replace IE := Lib.hid (IE.out.same hT)
  replace IF := Lib.hid (IF.out.same hT)
  have hSS := hS.trans hT
  clear hT t0 t1 t2 b0 b1 b2 b3 b4
  go_wp2_with fail
  refine (rsame_any aC aD nC nD cC cD _ _ _ IC.out ID.out).mono ?_
  rintro e1 v1 ⟨rfl, hT⟩
  rw [SM1.out]
  replace IE := Lib.hid (IE.out.same hT)
  replace IF := Lib.hid (IF.out.same hT)
  replace hSS := hSS.trans hT
  clear hT
  go_wp2_with fail
  refine (rsame_any aE aF nE nF cE cF _ _ _ IE.out IF.out).mono ?_
  rintro e1 v2 ⟨rfl, hT⟩
  rw [SM2.out]
  replace hSS := hSS.trans hT
  clear hT
  go_wp2_with fail
  go_ret
  exact ⟨rfl, hSS⟩
end Go.Proofs.Ytlnkpbaibnfhhaa
