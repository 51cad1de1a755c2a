/- The walk of LinearTalks. -/
import Derived.Test.YtlnkpbaibnfhhaaLinSame
import Derived.Test.YtlnkpbaibnfhhaaLinAcc
import Derived.Test.YtlnkpbaibnfhhaaAwake6
import Derived.Test.YtlnkpbaibnfhhaaW5
import Derived.Test.YtlnkpbaibnfhhaaFew6
import Derived.Test.YtlnkpbaibnfhhaaLaw6B
import Derived.Deep.RegionHeld3
set_option linter.unusedVariables false
set_option linter.unusedSimpArgs false
namespace Go.Proofs.Ytlnkpbaibnfhhaa
open Go.RowKit NT
/-- the group's box, a claim's, a talk's -/
abbrev CTS (W0 : World) (gx cx ax : Nat) (P Q G H : Int) (ra : Option Addr) (rn rc : Nat) (u v : Value) (e : Int) (u2 v2 : Value) (w : World) : Prop := w.cell? ⟨ax, 0, none⟩ = some (.int .u64 e) ∧ w.cell? ⟨ax, 1, none⟩ = some u2 ∧ w.cell? ⟨ax, 2, none⟩ = some v2 ∧ ClS W0 gx cx P Q G H ra rn rc u v w
theorem CTS.same {W0 w w' : World} {gx cx ax : Nat} {P Q G H : Int} {ra : Option Addr} {rn rc : Nat} {u v : Value} {e : Int} {u2 v2 : Value} (h : CTS W0 gx cx ax P Q G H ra rn rc u v e u2 v2 w) (hs : Same w w') : CTS W0 gx cx ax P Q G H ra rn rc u v e u2 v2 w' := ⟨same_cell hs h.1, same_cell hs h.2.1, same_cell hs h.2.2.1, h.2.2.2.same hs⟩
theorem CTS.base {W0 w : World} {gx cx ax : Nat} {P Q G H : Int} {ra : Option Addr} {rn rc : Nat} {u v : Value} {e : Int} {u2 v2 : Value} (h : CTS W0 gx cx ax P Q G H ra rn rc u v e u2 v2 w) : Same W0 w := h.2.2.2.base
theorem CTS.fresh {W0 w : World} {gx cx ax : Nat} {P Q G H : Int} {ra : Option Addr} {rn rc : Nat} {u v : Value} {e : Int} {u2 v2 : Value} (h : CTS W0 gx cx ax P Q G H ra rn rc u v e u2 v2 w) : CTS w gx cx ax P Q G H ra rn rc u v e u2 v2 w := ⟨h.1, h.2.1, h.2.2.1, h.2.2.2.fresh⟩
theorem par_ct (w : World) (P Q G H : Int) (ra : Option Addr) (rn rc : Nat) (u v : Value) (e : Int) (u2 v2 : Value) : ∃ W gx cx ax, ((w.alloc (.cells #[.int .u64 P, .int .u64 Q, .int .u64 G, .int .u64 H, .slice ra rn rc] 25)).alloc (.cells #[u, v] 29)).alloc (.cells #[.int .u64 e, u2, v2] 39) = W ∧ w.heap.size = gx ∧ gx + 1 = cx ∧ cx + 1 = ax ∧ CTS w gx cx ax P Q G H ra rn rc u v e u2 v2 W := by
  obtain ⟨W1, gx, cx, e1, e2, e3, hB⟩ := par_claim w P Q G H ra rn rc u v
  have hz : W1.heap.size = cx + 1 := by rw [← e1, ← e3, ← e2]; simp
  have hS1 : Same W1 (W1.alloc (.cells #[.int .u64 e, u2, v2] 39)) := (Same.refl W1).alloc _
  exact ⟨_, gx, cx, cx + 1, by rw [e1], e2, e3, rfl, by rw [← hz]; simp [World.cell?_alloc_new], by rw [← hz]; simp [World.cell?_alloc_new], by rw [← hz]; simp [World.cell?_alloc_new], hB.same hS1⟩
set_option maxRecDepth 100000 in
set_option maxHeartbeats 6400000 in
theorem lawTalks (P Q G H : Int) (ra : Option Addr) (rn rc : Nat) (rs : List RowD) (ta ba xa ya : Option Addr) (tn tc bn bc xn xc yn yc : Nat) (ts : List Int) (bs : List (List Int)) (e : Int) (xs ys : List Int) (hP : U64 P) (hQ : U64 Q) (hG : U64 G) (hH : U64 H) (he : U64 e) (w : World) (h : RowsAt w ra rn rs) (ht : IntsAt w ta tn ts) (hb : MatAt w ba bn bs) (hx : IntsAt w xa xn xs) (hy : IntsAt w ya yn ys) :
    Calls Try.prog 7 #[.agg #[.int .u64 P, .int .u64 Q, .int .u64 G, .int .u64 H, .slice ra rn rc], .agg #[.slice ta tn tc, .slice ba bn bc], .agg #[.int .u64 e, .slice xa xn xc, .slice ya yn yc]] w fun e w' => e = .returned (.bool true) ∧ Same w w' := by
  obtain ⟨W, gx, cx, ax, eW, eg, ec, ea, hB⟩ := par_ct w P Q G H ra rn rc (.slice ta tn tc) (.slice ba bn bc) e (.slice xa xn xc) (.slice ya yn yc)
  have EW := Lib.hid eW
  have EG := Lib.hid eg
  have EC := Lib.hid ec
  have EA := Lib.hid ea
  have H1 := Lib.hid h
  have HT := Lib.hid ht
  have HM := Lib.hid hb
  have HX := Lib.hid hx
  have HY := Lib.hid hy
  have HU := Lib.hid (And.intro hP (And.intro hQ (And.intro hG hH)))
  have HE := Lib.hid he
  clear eW eg ec ea h ht hb hx hy hP hQ hG hH he
  obtain ⟨ib, eib⟩ : ∃ b, imgB P Q ts bs ys = b := ⟨_, rfl⟩
  obtain ⟨ab, eab⟩ : ∃ b, accB P Q ts bs xs e ys = b := ⟨_, rfl⟩
  have IB := Lib.hid eib
  have AB := Lib.hid eab
  have SM := Lib.hid (sameB_yes (xs := fakL P Q ts bs e ys) (ys := fakL P Q ts bs e ys) rfl)
  clear eib eab
  go_enter Try.func7, Try.ntmps7
  go_upto_region 1 with fail
  rw [EW.out, EG.out, EC.out, EA.out]
  go_wp2_with fail
  refine (awake6 _).mono ?_
  rintro e1 w1 ⟨rfl, hT⟩
  have HB := Lib.hid (CTS.same hB hT)
  clear hB hT
  obtain ⟨t0, t1, t2, c0, c1, b0, b1, b2, b3, b4, hS⟩ := HB.out
  go_wp2_with fail
  refine (group5_any P Q G H ra rn rc rs HU.out.1 HU.out.2.1 HU.out.2.2.1 HU.out.2.2.2 _ (H1.out.same hS)).mono ?_
  rintro e1 w2 ⟨rfl, hT⟩
  by_cases hg : GoodP P Q G H rs
  case neg =>
    rw [goodB_no hg]
    clear hg
    go_wp2_with fail
    go_ret
    exact ⟨rfl, hS.trans hT⟩
  rw [goodB_yes hg]
  have HGR := Lib.hid hg.2.grp
  have HRI := Lib.hid hg.2
  replace HB := Lib.hid (CTS.same HB.out hT)
  clear hg t0 t1 t2 c0 c1 b0 b1 b2 b3 b4 hS hT
  obtain ⟨t0, t1, t2, c0, c1, b0, b1, b2, b3, b4, hS⟩ := HB.out
  go_wp2_with fail
  refine (few6_any ta ba _ tn tc bn bc 2 2 ts bs [xs, ys] _ (HT.out.same (hS.alloc _)) (HM.out.same (hS.alloc _)) (mat_two _ _ _ _ _ _ _ _ _ _ (HX.out.same hS) (HY.out.same hS))).mono ?_
  rintro e1 w3 ⟨rfl, hT⟩
  by_cases hf : FewP ts bs [xs, ys]
  case neg =>
    rw [fewB_no hf]
    clear hf
    go_wp2_with fail
    go_ret
    exact ⟨rfl, hS.trans (((Same.refl _).alloc _).trans hT)⟩
  rw [fewB_yes hf]
  replace HB := Lib.hid (CTS.same HB.out (((Same.refl _).alloc _).trans hT))
  clear hf t0 t1 t2 c0 c1 b0 b1 b2 b3 b4 hS hT
  obtain ⟨t0, t1, t2, c0, c1, b0, b1, b2, b3, b4, hS⟩ := HB.out
  go_wp2_with fail
  refine (fake_any P Q G H ra rn rc ta ba ya tn tc bn bc yn yc ts bs e ys HU.out.1 HU.out.2.1 HE.out HGR.out _ (HT.out.same hS) (HM.out.same hS) (HY.out.same hS)).mono ?_
  rintro e1 w4 ⟨aA, nA, cA, rfl, hi, hT⟩
  rw [IB.out]
  have IA := Lib.hid hi
  replace HB := Lib.hid (CTS.same HB.out hT)
  clear t0 t1 t2 c0 c1 b0 b1 b2 b3 b4 hS hT hi
  obtain ⟨t0, t1, t2, c0, c1, b0, b1, b2, b3, b4, hS⟩ := HB.out
  go_wp2_with fail
  refine (rfake_any P Q G H ra rn rc ta ba ya tn tc bn bc yn yc ts bs e ys HU.out.1 HU.out.2.1 HE.out _ (HT.out.same hS) (HM.out.same hS) (HY.out.same hS)).mono ?_
  rintro e1 w5 ⟨aB, nB, cB, rfl, hi, hT⟩
  rw [IB.out]
  replace IA := Lib.hid (IA.out.same (hT.trans (drew_same w5)))
  have IBB := Lib.hid (IntsAt.same hi (drew_same w5))
  replace HB := Lib.hid (CTS.same HB.out (hT.trans (drew_same w5)))
  clear hi
  go_upto_region 7 with fail
  obtain ⟨w6, ew6⟩ : ∃ w6, w5.drew = w6 := ⟨_, rfl⟩
  rw [ew6] at HB IA IBB
  have HB6 := Lib.hid (CTS.fresh HB.out)
  have HS := Lib.hid HB.out.base
  have HT6 := Lib.hid (HT.out.same HB.out.base)
  have HM6 := Lib.hid (HM.out.same HB.out.base)
  have HX6 := Lib.hid (HX.out.same HB.out.base)
  have HY6 := Lib.hid (HY.out.same HB.out.base)
  have EW6 := Lib.hid ew6
  clear t0 t1 t2 c0 c1 b0 b1 b2 b3 b4 hS hT ew6
  go_region_held3 (fun w' => CTS w6 gx cx ax P Q G H ra rn rc (.slice ta tn tc) (.slice ba bn bc) e (.slice xa xn xc) (.slice ya yn yc) w')
    (first
      | (rw [EW6.out]; exact HB6.out)
      | (with_reducible refine CTS.same (by assumption) ?_; with_reducible assumption)
      | assumption
      | go_keep)
    (first
      | (go_at_call 22; refine (accepts_any P Q G H ra rn rc ta ba xa ya tn tc bn bc xn xc yn yc ts bs xs e ys HU.out.1 HU.out.2.1 HE.out HGR.out _ (HT6.out.same (CTS.base (W0 := w6) (gx := gx) (cx := cx) (ax := ax) (P := P) (Q := Q) (G := G) (H := H) (ra := ra) (rn := rn) (rc := rc) (u := .slice ta tn tc) (v := .slice ba bn bc) (e := e) (u2 := .slice xa xn xc) (v2 := .slice ya yn yc) (by with_reducible assumption))) (HM6.out.same (CTS.base (W0 := w6) (gx := gx) (cx := cx) (ax := ax) (P := P) (Q := Q) (G := G) (H := H) (ra := ra) (rn := rn) (rc := rc) (u := .slice ta tn tc) (v := .slice ba bn bc) (e := e) (u2 := .slice xa xn xc) (v2 := .slice ya yn yc) (by with_reducible assumption))) (HX6.out.same (CTS.base (W0 := w6) (gx := gx) (cx := cx) (ax := ax) (P := P) (Q := Q) (G := G) (H := H) (ra := ra) (rn := rn) (rc := rc) (u := .slice ta tn tc) (v := .slice ba bn bc) (e := e) (u2 := .slice xa xn xc) (v2 := .slice ya yn yc) (by with_reducible assumption))) (HY6.out.same (CTS.base (W0 := w6) (gx := gx) (cx := cx) (ax := ax) (P := P) (Q := Q) (G := G) (H := H) (ra := ra) (rn := rn) (rc := rc) (u := .slice ta tn tc) (v := .slice ba bn bc) (e := e) (u2 := .slice xa xn xc) (v2 := .slice ya yn yc) (by with_reducible assumption)))).mono ?_; rintro e1 v3 ⟨rfl, hT3⟩; rw [AB.out])
      | (go_at_call 30; refine (raccepts_any P Q G H ra rn rc ta ba xa ya tn tc bn bc xn xc yn yc ts bs xs e ys HU.out.1 HU.out.2.1 HE.out HGR.out _ (HT6.out.same (CTS.base (W0 := w6) (gx := gx) (cx := cx) (ax := ax) (P := P) (Q := Q) (G := G) (H := H) (ra := ra) (rn := rn) (rc := rc) (u := .slice ta tn tc) (v := .slice ba bn bc) (e := e) (u2 := .slice xa xn xc) (v2 := .slice ya yn yc) (by with_reducible assumption))) (HM6.out.same (CTS.base (W0 := w6) (gx := gx) (cx := cx) (ax := ax) (P := P) (Q := Q) (G := G) (H := H) (ra := ra) (rn := rn) (rc := rc) (u := .slice ta tn tc) (v := .slice ba bn bc) (e := e) (u2 := .slice xa xn xc) (v2 := .slice ya yn yc) (by with_reducible assumption))) (HX6.out.same (CTS.base (W0 := w6) (gx := gx) (cx := cx) (ax := ax) (P := P) (Q := Q) (G := G) (H := H) (ra := ra) (rn := rn) (rc := rc) (u := .slice ta tn tc) (v := .slice ba bn bc) (e := e) (u2 := .slice xa xn xc) (v2 := .slice ya yn yc) (by with_reducible assumption))) (HY6.out.same (CTS.base (W0 := w6) (gx := gx) (cx := cx) (ax := ax) (P := P) (Q := Q) (G := G) (H := H) (ra := ra) (rn := rn) (rc := rc) (u := .slice ta tn tc) (v := .slice ba bn bc) (e := e) (u2 := .slice xa xn xc) (v2 := .slice ya yn yc) (by with_reducible assumption)))).mono ?_; rintro e1 v3 ⟨rfl, hT3⟩; rw [AB.out])
      | (go_at_call 17; refine (rsame_any aA aB nA nB cA cB _ _ _ (IA.out.same (CTS.base (W0 := w6) (gx := gx) (cx := cx) (ax := ax) (P := P) (Q := Q) (G := G) (H := H) (ra := ra) (rn := rn) (rc := rc) (u := .slice ta tn tc) (v := .slice ba bn bc) (e := e) (u2 := .slice xa xn xc) (v2 := .slice ya yn yc) (by with_reducible assumption))) (IBB.out.same (CTS.base (W0 := w6) (gx := gx) (cx := cx) (ax := ax) (P := P) (Q := Q) (G := G) (H := H) (ra := ra) (rn := rn) (rc := rc) (u := .slice ta tn tc) (v := .slice ba bn bc) (e := e) (u2 := .slice xa xn xc) (v2 := .slice ya yn yc) (by with_reducible assumption)))).mono ?_; rintro e1 v3 ⟨rfl, hT3⟩; rw [SM.out])
      | fail)
  rename_i hHeld
  go_wp2_with fail
  go_ret
  exact ⟨rfl, HS.out.trans hHeld.base⟩
end Go.Proofs.Ytlnkpbaibnfhhaa
