/- The walk of LinearImages. -/
import Derived.Test.YtlnkpbaibnfhhaaLinSame
import Derived.Test.YtlnkpbaibnfhhaaLinRFour
import Derived.Test.YtlnkpbaibnfhhaaAwake6
import Derived.Test.YtlnkpbaibnfhhaaW5
import Derived.Test.YtlnkpbaibnfhhaaFew6
import Derived.Deep.RegionHeld3
set_option linter.unusedVariables false
set_option linter.unusedSimpArgs false
namespace Go.Proofs.Ytlnkpbaibnfhhaa
open Go.RowKit NT
theorem mat_one (w : World) (t : TypeId) (a : Option Addr) (n c : Nat) (xs : List Int) (h : IntsAt w a n xs) : MatAt (w.alloc (.cells #[.slice a n c] t)) (some ⟨w.heap.size, 0, none⟩) 1 [xs] := by
  refine ⟨rfl, by omega, fun _ => ⟨_, 0, rfl, fun j hj => ?_⟩⟩
  have : j = 0 := by omega
  subst this
  exact ⟨a, n, c, by simp [World.cell?_alloc_new], h.same ((Same.refl w).alloc _)⟩
theorem mat_two (w : World) (t : TypeId) (a b : Option Addr) (n c m d : Nat) (xs ys : List Int) (h : IntsAt w a n xs) (k : IntsAt w b m ys) : MatAt (w.alloc (.cells #[.slice a n c, .slice b m d] t)) (some ⟨w.heap.size, 0, none⟩) 2 [xs, ys] := by
  refine ⟨rfl, by omega, fun _ => ⟨_, 0, rfl, fun j hj => ?_⟩⟩
  match j, hj with
  | 0, _ => exact ⟨a, n, c, by simp [World.cell?_alloc_new], h.same ((Same.refl w).alloc _)⟩
  | 1, _ => exact ⟨b, m, d, by simp [World.cell?_alloc_new], k.same ((Same.refl w).alloc _)⟩
set_option maxRecDepth 100000 in
set_option maxHeartbeats 6400000 in
theorem lawImages (P Q G H : Int) (ra : Option Addr) (rn rc : Nat) (rs : List RowD) (ta ba wa : Option Addr) (tn tc bn bc wn wc : Nat) (ts : List Int) (bs : List (List Int)) (ws : List Int) (hP : U64 P) (hQ : U64 Q) (hG : U64 G) (hH : U64 H) (w : World) (h : RowsAt w ra rn rs) (ht : IntsAt w ta tn ts) (hb : MatAt w ba bn bs) (hw : IntsAt w wa wn ws) :
    Calls Try.prog 3 #[.agg #[.int .u64 P, .int .u64 Q, .int .u64 G, .int .u64 H, .slice ra rn rc], .agg #[.slice ta tn tc, .slice ba bn bc], .slice wa wn wc] w fun e w' => e = .returned (.bool true) ∧ Same w w' := by
  obtain ⟨W, gx, cx, eW, eg, ec, hB⟩ := par_claim w P Q G H ra rn rc (.slice ta tn tc) (.slice ba bn bc)
  have EW := Lib.hid eW
  have EG := Lib.hid eg
  have EC := Lib.hid ec
  have H1 := Lib.hid h
  have HT := Lib.hid ht
  have HM := Lib.hid hb
  have HW := Lib.hid hw
  have HU := Lib.hid (And.intro hP (And.intro hQ (And.intro hG hH)))
  clear eW eg ec h ht hb hw hP hQ hG hH
  obtain ⟨ib, eib⟩ : ∃ b, imgB P Q ts bs ws = b := ⟨_, rfl⟩
  obtain ⟨sz, esz⟩ : ∃ b, sizeS P Q ts bs = b := ⟨_, rfl⟩
  obtain ⟨hob, ehb⟩ : ∃ b, holdsB6 P Q ts bs ws = b := ⟨_, rfl⟩
  have IB := Lib.hid eib
  have SZ := Lib.hid esz
  have HHB := Lib.hid ehb
  have SM := Lib.hid (sameB_yes (xs := imgL P Q ts bs ws) (ys := imgL P Q ts bs ws) rfl)
  clear eib esz ehb
  go_enter Try.func3, Try.ntmps3
  go_upto_region 1 with fail
  rw [EW.out, EG.out, EC.out]
  go_wp2_with fail
  refine (awake6 _).mono ?_
  rintro e1 w1 ⟨rfl, hT⟩
  have HB := Lib.hid (ClS.same hB hT)
  clear hB hT
  obtain ⟨c0, c1, b0, b1, b2, b3, b4, hS⟩ := HB.out
  go_wp2_with fail
  refine (group5_any P Q G H ra rn rc rs HU.out.1 HU.out.2.1 HU.out.2.2.1 HU.out.2.2.2 _ (H1.out.same hS)).mono ?_
  rintro e1 w2 ⟨rfl, hT⟩
  by_cases hg : GoodP P Q G H rs
  case neg =>
    rw [goodB_no hg]
    clear hg
    go_wp2_with fail
    go_ret
    exact ⟨rfl, hS.trans hT⟩
  rw [goodB_yes hg]
  have HGR := Lib.hid hg.2.grp
  have HRI := Lib.hid hg.2
  replace HB := Lib.hid (ClS.same HB.out hT)
  clear hg c0 c1 b0 b1 b2 b3 b4 hS hT
  obtain ⟨c0, c1, b0, b1, b2, b3, b4, hS⟩ := HB.out
  go_wp2_with fail
  refine (few6_any ta ba _ tn tc bn bc 1 1 ts bs [ws] _ (HT.out.same (hS.alloc _)) (HM.out.same (hS.alloc _)) (mat_one _ _ _ _ _ _ (HW.out.same hS))).mono ?_
  rintro e1 w3 ⟨rfl, hT⟩
  by_cases hf : FewP ts bs [ws]
  case neg =>
    rw [fewB_no hf]
    clear hf
    go_wp2_with fail
    go_ret
    exact ⟨rfl, hS.trans (((Same.refl _).alloc _).trans hT)⟩
  rw [fewB_yes hf]
  replace HB := Lib.hid (ClS.same HB.out (((Same.refl _).alloc _).trans hT))
  clear hf c0 c1 b0 b1 b2 b3 b4 hS hT
  obtain ⟨c0, c1, b0, b1, b2, b3, b4, hS⟩ := HB.out
  go_wp2_with fail
  refine (image_any P Q G H ra rn rc ta ba wa tn tc bn bc wn wc ts bs ws HU.out.1 HU.out.2.1 HGR.out _ (HT.out.same hS) (HM.out.same hS) (HW.out.same hS)).mono ?_
  rintro e1 w4 ⟨aA, nA, cA, rfl, hi, hT⟩
  rw [IB.out]
  have IA := Lib.hid hi
  replace HB := Lib.hid (ClS.same HB.out hT)
  clear c0 c1 b0 b1 b2 b3 b4 hS hT hi
  obtain ⟨c0, c1, b0, b1, b2, b3, b4, hS⟩ := HB.out
  go_wp2_with fail
  refine (rimage_any P Q G H ra rn rc ta ba wa tn tc bn bc wn wc ts bs ws HU.out.1 HU.out.2.1 _ (HT.out.same hS) (HM.out.same hS) (HW.out.same hS)).mono ?_
  rintro e1 w5 ⟨aB, nB, cB, rfl, hi, hT⟩
  rw [IB.out]
  replace IA := Lib.hid (IA.out.same (hT.trans (drew_same w5)))
  have IBB := Lib.hid (IntsAt.same hi (drew_same w5))
  replace HB := Lib.hid (ClS.same HB.out (hT.trans (drew_same w5)))
  clear hi
  go_upto_region 7 with fail
  obtain ⟨w6, ew6⟩ : ∃ w6, w5.drew = w6 := ⟨_, rfl⟩
  rw [ew6] at HB IA IBB
  have HB6 := Lib.hid (ClS.fresh HB.out)
  have HS := Lib.hid HB.out.base
  have HT6 := Lib.hid (HT.out.same HB.out.base)
  have HM6 := Lib.hid (HM.out.same HB.out.base)
  have HW6 := Lib.hid (HW.out.same HB.out.base)
  have EW6 := Lib.hid ew6
  clear c0 c1 b0 b1 b2 b3 b4 hS hT ew6
  go_region_held3 (fun w' => ClS w6 gx cx P Q G H ra rn rc (.slice ta tn tc) (.slice ba bn bc) w')
    (first
      | (rw [EW6.out]; exact HB6.out)
      | (with_reducible refine ClS.same (by assumption) ?_; with_reducible assumption)
      | assumption
      | go_keep)
    (first
      | (go_at_call 15; refine (size_any P Q G H ra rn rc ta ba tn tc bn bc ts bs HU.out.1 HU.out.2.1 _ (HT6.out.same (ClS.base (W0 := w6) (gx := gx) (cx := cx) (P := P) (Q := Q) (G := G) (H := H) (ra := ra) (rn := rn) (rc := rc) (u := .slice ta tn tc) (v := .slice ba bn bc) (by with_reducible assumption))) (HM6.out.same (ClS.base (W0 := w6) (gx := gx) (cx := cx) (P := P) (Q := Q) (G := G) (H := H) (ra := ra) (rn := rn) (rc := rc) (u := .slice ta tn tc) (v := .slice ba bn bc) (by with_reducible assumption)))).mono ?_; rintro e1 v3 ⟨rfl, hT3⟩; rw [SZ.out])
      | (go_at_call 16; refine (rsize_any P Q G H ra rn rc ta ba tn tc bn bc ts bs HU.out.1 HU.out.2.1 _ (HT6.out.same (ClS.base (W0 := w6) (gx := gx) (cx := cx) (P := P) (Q := Q) (G := G) (H := H) (ra := ra) (rn := rn) (rc := rc) (u := .slice ta tn tc) (v := .slice ba bn bc) (by with_reducible assumption))) (HM6.out.same (ClS.base (W0 := w6) (gx := gx) (cx := cx) (P := P) (Q := Q) (G := G) (H := H) (ra := ra) (rn := rn) (rc := rc) (u := .slice ta tn tc) (v := .slice ba bn bc) (by with_reducible assumption)))).mono ?_; rintro e1 v3 ⟨rfl, hT3⟩; rw [SZ.out])
      | (go_at_call 17; refine (rsame_any aA aB nA nB cA cB _ _ _ (IA.out.same (ClS.base (W0 := w6) (gx := gx) (cx := cx) (P := P) (Q := Q) (G := G) (H := H) (ra := ra) (rn := rn) (rc := rc) (u := .slice ta tn tc) (v := .slice ba bn bc) (by with_reducible assumption))) (IBB.out.same (ClS.base (W0 := w6) (gx := gx) (cx := cx) (P := P) (Q := Q) (G := G) (H := H) (ra := ra) (rn := rn) (rc := rc) (u := .slice ta tn tc) (v := .slice ba bn bc) (by with_reducible assumption)))).mono ?_; rintro e1 v3 ⟨rfl, hT3⟩; rw [SM.out])
      | (go_at_call 18; refine (holds6_any P Q G H ra rn rc ta ba wa tn tc bn bc wn wc ts bs ws HU.out.1 HU.out.2.1 HGR.out _ (HT6.out.same (ClS.base (W0 := w6) (gx := gx) (cx := cx) (P := P) (Q := Q) (G := G) (H := H) (ra := ra) (rn := rn) (rc := rc) (u := .slice ta tn tc) (v := .slice ba bn bc) (by with_reducible assumption))) (HM6.out.same (ClS.base (W0 := w6) (gx := gx) (cx := cx) (P := P) (Q := Q) (G := G) (H := H) (ra := ra) (rn := rn) (rc := rc) (u := .slice ta tn tc) (v := .slice ba bn bc) (by with_reducible assumption))) (HW6.out.same (ClS.base (W0 := w6) (gx := gx) (cx := cx) (P := P) (Q := Q) (G := G) (H := H) (ra := ra) (rn := rn) (rc := rc) (u := .slice ta tn tc) (v := .slice ba bn bc) (by with_reducible assumption)))).mono ?_; rintro e1 v3 ⟨rfl, hT3⟩; rw [HHB.out])
      | (go_at_call 19; refine (rholds6_any P Q G H ra rn rc ta ba wa tn tc bn bc wn wc ts bs ws HU.out.1 HU.out.2.1 _ (HT6.out.same (ClS.base (W0 := w6) (gx := gx) (cx := cx) (P := P) (Q := Q) (G := G) (H := H) (ra := ra) (rn := rn) (rc := rc) (u := .slice ta tn tc) (v := .slice ba bn bc) (by with_reducible assumption))) (HM6.out.same (ClS.base (W0 := w6) (gx := gx) (cx := cx) (P := P) (Q := Q) (G := G) (H := H) (ra := ra) (rn := rn) (rc := rc) (u := .slice ta tn tc) (v := .slice ba bn bc) (by with_reducible assumption))) (HW6.out.same (ClS.base (W0 := w6) (gx := gx) (cx := cx) (P := P) (Q := Q) (G := G) (H := H) (ra := ra) (rn := rn) (rc := rc) (u := .slice ta tn tc) (v := .slice ba bn bc) (by with_reducible assumption)))).mono ?_; rintro e1 v3 ⟨rfl, hT3⟩; rw [HHB.out])
      | fail)
  rename_i hHeld
  go_wp2_with fail
  go_ret
  exact ⟨rfl, HS.out.trans hHeld.base⟩
end Go.Proofs.Ytlnkpbaibnfhhaa
