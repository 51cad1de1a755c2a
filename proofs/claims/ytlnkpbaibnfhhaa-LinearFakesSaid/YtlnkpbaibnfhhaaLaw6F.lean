/- The walk of LinearFakes. -/
import Derived.Test.YtlnkpbaibnfhhaaLinQ
import Derived.Test.YtlnkpbaibnfhhaaLaw6A
import Derived.Test.YtlnkpbaibnfhhaaLaw6C
import Derived.Test.YtlnkpbaibnfhhaaClaim6
set_option linter.unusedVariables false
set_option linter.unusedSimpArgs false
set_option pp.deepTerms true
set_option pp.maxSteps 1000000
namespace Go.Proofs.Ytlnkpbaibnfhhaa
open Go.RowKit NT
abbrev FkS (W0 : World) (gx cx ax b1 o1 : Nat) (P Q G H : Int) (ra : Option Addr) (rn rc : Nat) (u v : Value) (e : Int) (u2 v2 : Value) (y : Int) (w : World) : Prop := w.cell? ⟨b1, o1, none⟩ = some (.int .u64 y) ∧ CTS W0 gx cx ax P Q G H ra rn rc u v e u2 v2 w
theorem FkS.same {W0 w w' : World} {gx cx ax b1 o1 : Nat} {P Q G H : Int} {ra : Option Addr} {rn rc : Nat} {u v : Value} {e : Int} {u2 v2 : Value} {y : Int} (h : FkS W0 gx cx ax b1 o1 P Q G H ra rn rc u v e u2 v2 y w) (hs : Same w w') : FkS W0 gx cx ax b1 o1 P Q G H ra rn rc u v e u2 v2 y w' := ⟨same_cell hs h.1, h.2.same hs⟩
theorem FkS.fresh {W0 w : World} {gx cx ax b1 o1 : Nat} {P Q G H : Int} {ra : Option Addr} {rn rc : Nat} {u v : Value} {e : Int} {u2 v2 : Value} {y : Int} (h : FkS W0 gx cx ax b1 o1 P Q G H ra rn rc u v e u2 v2 y w) : FkS w gx cx ax b1 o1 P Q G H ra rn rc u v e u2 v2 y w := ⟨h.1, h.2.fresh⟩
set_option maxRecDepth 100000 in
set_option maxHeartbeats 6400000 in
theorem lawFakes (P Q G H : Int) (ra : Option Addr) (rn rc : Nat) (rs : List RowD) (ba xa ya : Option Addr) (bn bc xn xc yn yc : Nat) (bs : List (List Int)) (e : Int) (xs ys : List Int) (hP : U64 P) (hQ : U64 Q) (hG : U64 G) (hH : U64 H) (he : U64 e) (hbn : bn * 24 ≤ 140737488355328) (w : World) (h : RowsAt w ra rn rs) (hb : MatAt w ba bn bs) (hx : IntsAt w xa xn xs) (hy : IntsAt w ya yn ys) :
    Calls Try.prog 8 #[.agg #[.int .u64 P, .int .u64 Q, .int .u64 G, .int .u64 H, .slice ra rn rc], .slice ba bn bc, .agg #[.int .u64 e, .slice xa xn xc, .slice ya yn yc]] w fun e w' => e = .returned (.bool true) ∧ Same w w' := by
  obtain ⟨W, gx, ax, eW, eg, ea, hB⟩ := par_talk w P Q G H ra rn rc e (.slice xa xn xc) (.slice ya yn yc)
  have EW := Lib.hid eW
  have EG := Lib.hid eg
  have EA := Lib.hid ea
  have H1 := Lib.hid h
  have HM := Lib.hid hb
  have HX := Lib.hid hx
  have HY := Lib.hid hy
  have HLX := Lib.hid hx.len
  have HLY := Lib.hid hy.len
  have HSZ := Lib.hid (And.intro hx.small hy.small)
  have HU := Lib.hid (And.intro hP (And.intro hQ (And.intro hG hH)))
  have HE := Lib.hid he
  have HBN := Lib.hid hbn
  clear eW eg ea h hb hx hy hP hQ hG hH he hbn
  go_enter Try.func8, Try.ntmps8
  go_upto_region 1 with fail
  rw [EW.out, EG.out, EA.out]
  go_wp2_with fail
  refine (awake6 _).mono ?_
  rintro e1 w1 ⟨rfl, hT⟩
  have HB := Lib.hid (TkS.same hB hT)
  clear hB hT
  obtain ⟨t0, t1, t2, b0, b1, b2, b3, b4, hS⟩ := HB.out
  go_wp2_with fail
  refine (group5_any P Q G H ra rn rc rs HU.out.1 HU.out.2.1 HU.out.2.2.1 HU.out.2.2.2 _ (H1.out.same hS)).mono ?_
  rintro e1 w2 ⟨rfl, hT⟩
  by_cases hg : GoodP P Q G H rs
  case neg =>
    rw [goodB_no hg]
    clear hg
    go_wp2_with fail
    go_ret
    exact ⟨rfl, hS.trans hT⟩
  rw [goodB_yes hg]
  have HGR := Lib.hid hg.2.grp
  replace HB := Lib.hid (TkS.same HB.out hT)
  clear hg t0 t1 t2 b0 b1 b2 b3 b4 hS hT
  obtain ⟨t0, t1, t2, b0, b1, b2, b3, b4, hS⟩ := HB.out
  go_wp2_with fail
  refine (claim_any P Q G H ra rn rc ba xa bn bc xn xc bs xs HU.out.1 HU.out.2.1 HBN.out _ (HM.out.same hS) (HX.out.same hS)).mono ?_
  rintro e1 w3 ⟨ta, tn, tc, rfl, hti, hT⟩
  obtain ⟨cb, ecb⟩ : ∃ cb, claimB P Q bs xs = cb := ⟨_, rfl⟩
  have HCB := Lib.hid ecb
  have HTI := Lib.hid hti
  rw [ecb]
  replace HB := Lib.hid (TkS.same HB.out hT)
  clear ecb hti t0 t1 t2 b0 b1 b2 b3 b4 hS hT
  obtain ⟨t0, t1, t2, b0, b1, b2, b3, b4, hS⟩ := HB.out
  go_upto_region 6 with fail
  obtain ⟨w4, ew4⟩ : ∃ w4, w3.alloc (.cells #[.slice ta tn tc, .slice ba bn bc] 29) = w4 := ⟨_, rfl⟩
  obtain ⟨cx, ecx⟩ : ∃ cx, w3.heap.size = cx := ⟨_, rfl⟩
  have hS4 : Same w3 w4 := by rw [← ew4]; exact (Same.refl w3).alloc _
  have hc0 : w4.cell? ⟨cx, 0, none⟩ = some (.slice ta tn tc) := by rw [← ew4, ← ecx]; simp [World.cell?_alloc_new]
  have hc1 : w4.cell? ⟨cx, 1, none⟩ = some (.slice ba bn bc) := by rw [← ew4, ← ecx]; simp [World.cell?_alloc_new]
  rw [ew4, ecx]
  have HCT := Lib.hid (show CTS w gx cx ax P Q G H ra rn rc (.slice ta tn tc) (.slice ba bn bc) e (.slice xa xn xc) (.slice ya yn yc) w4 from ⟨same_cell hS4 t0, same_cell hS4 t1, same_cell hS4 t2, hc0, hc1, BoxS.same HB.out.2.2.2 hS4⟩)
  have HS4 := Lib.hid hS4
  clear ew4 ecx t0 t1 t2 b0 b1 b2 b3 b4 hS hS4 hc0 hc1 HB
  obtain ⟨t0, t1, t2, c0, c1, b0, b1, b2, b3, b4, hS⟩ := HCT.out
  cases cb
  · go_wp2_with fail
    go_ret
    exact ⟨rfl, hS⟩
  have hsx := HSZ.out.1
  have hsy := HSZ.out.2
  by_cases hl : yn = xn
  case neg =>
    have d0 : ((yn : Int) != xn) = true := by simp; omega
    go_wp2_with fail
    go_ret
    exact ⟨rfl, hS⟩
  have d0 : ((yn : Int) != xn) = false := by simp; omega
  have HOK := Lib.hid (claim_parts HCB.out)
  have HTS := Lib.hid ((HTI.out HCB.out).same HS4.out)
  have HLE := Lib.hid (show xs.length = ys.length by rw [HLX.out, HLY.out, hl])
  have hx8 : xn ≤ 1000 := by have := HOK.out.2; rw [HLX.out] at this; omega
  clear hl hsx hsy
  go_wp2_with fail
  refine (image_any P Q G H ra rn rc ta ba ya tn tc bn bc yn yc _ bs ys HU.out.1 HU.out.2.1 HGR.out _ HTS.out (HM.out.same hS) (HY.out.same hS)).mono ?_
  rintro e1 w5 ⟨aD, nD, cD, rfl, hi, hT⟩
  have HOY := Lib.hid (show ImgOk P Q (imageS P Q bs xs) bs ys from ⟨(claim_ok HGR.out HOK.out.1 (fun i => (HX.out.bd i).1)).1, by rw [← HLE.out]; exact HOK.out.1.2⟩)
  rw [imgB_yes HOY.out]
  have ID := Lib.hid (show IntsAt w5 aD nD (imageS P Q bs ys) by have h2 := hi; rw [imgL_yes HOY.out] at h2; exact h2)
  replace HCT := Lib.hid (CTS.same HCT.out hT)
  replace HTS := Lib.hid (HTS.out.same hT)
  clear t0 t1 t2 c0 c1 b0 b1 b2 b3 b4 hS hT hi d0
  obtain ⟨t0, t1, t2, c0, c1, b0, b1, b2, b3, b4, hS⟩ := HCT.out
  go_wp2_with fail
  refine (ans_any P Q G H ra rn rc e xa ya xn xc yn yc xs ys HU.out.1 HU.out.2.1 HE.out hx8 _ (HX.out.same hS) (HY.out.same hS)).mono ?_
  rintro e1 w6 ⟨aZ, nZ, cZ, rfl, hi, hT⟩
  rw [lenB_yes HLE.out]
  have IZ := Lib.hid hi
  replace ID := Lib.hid (ID.out.same hT)
  replace HCT := Lib.hid (CTS.same HCT.out hT)
  replace HTS := Lib.hid (HTS.out.same hT)
  clear t0 t1 t2 c0 c1 b0 b1 b2 b3 b4 hS hT hi
  obtain ⟨t0, t1, t2, c0, c1, b0, b1, b2, b3, b4, hS⟩ := HCT.out
  go_wp2_with fail
  refine (fake_any P Q G H ra rn rc ta ba aZ tn tc bn bc nZ cZ _ bs e _ HU.out.1 HU.out.2.1 HE.out HGR.out _ HTS.out (HM.out.same hS) IZ.out).mono ?_
  rintro e1 w7 ⟨aF, nF, cF, rfl, hi, hT⟩
  have HFK := Lib.hid (fakes_eq HGR.out HE.out.1 HOK.out.1 HLE.out (fun i => (HX.out.bd i).1) (fun i => (HY.out.bd i).1))
  rw [imgB_yes HFK.out.1]
  have IFK := Lib.hid (show IntsAt w7 aF nF (imageS P Q bs ys) by have h2 := hi; rw [HFK.out.2] at h2; exact h2)
  replace ID := Lib.hid (ID.out.same hT)
  replace IZ := Lib.hid (IZ.out.same hT)
  replace HCT := Lib.hid (CTS.same HCT.out hT)
  clear t0 t1 t2 c0 c1 b0 b1 b2 b3 b4 hS hT hi
  obtain ⟨t0, t1, t2, c0, c1, b0, b1, b2, b3, b4, hS⟩ := HCT.out
  have HLZ := Lib.hid (show xs.length = (eachS (ansF Q e) xs ys).length by rw [eachS_len HLE.out])
  go_wp2_with fail
  refine (drw_any P Q G H ra rn rc e xa aZ xn xc nZ cZ xs _ HU.out.1 HU.out.2.1 HE.out hx8 _ (HX.out.same hS) IZ.out).mono ?_
  rintro e1 w8 ⟨aB, nB, cB, rfl, hi, hT⟩
  rw [lenB_yes HLZ.out]
  have IB := Lib.hid hi
  replace ID := Lib.hid (ID.out.same hT)
  replace IFK := Lib.hid (IFK.out.same hT)
  replace HCT := Lib.hid (CTS.same HCT.out hT)
  clear t0 t1 t2 c0 c1 b0 b1 b2 b3 b4 hS hT hi
  obtain ⟨t0, t1, t2, c0, c1, b0, b1, b2, b3, b4, hS⟩ := HCT.out
  go_wp2_with fail
  refine (rsame_any aD aF nD nF cD cF _ _ _ ID.out IFK.out).mono ?_
  rintro e1 w9 ⟨rfl, hT⟩
  rw [sameB_yes rfl]
  have HIB := Lib.hid (IB.out.same hT)
  have HNB := Lib.hid (show nB = xn by rw [← IB.out.len, eachS_len HLZ.out, HLX.out])
  replace HCT := Lib.hid (CTS.same HCT.out hT)
  clear t0 t1 t2 c0 c1 b0 b1 b2 b3 b4 hS hT
  obtain ⟨t0, t1, t2, c0, c1, b0, b1, b2, b3, b4, hS⟩ := HCT.out
  have hnb : nB ≤ 1000 := by have := HNB.out; omega
  go_wp2_with fail
  go_loopw [95] (fun s95 wr => ∃ i : Nat, s95 = .int .i64 i ∧ i ≤ nB ∧ Hid (Same w9 wr)) (fun s95 _ => nB - (intOf s95).toNat)
  case atStart => exact ⟨0, rfl, by omega, Lib.hid (Same.refl _)⟩
  case round =>
    obtain ⟨i, rfl, hi, hD⟩ := hrel
    have HCR := Lib.hid (CTS.same HCT.out hD.out)
    clear t0 t1 t2 c0 c1 b0 b1 b2 b3 b4 hS
    obtain ⟨t0, t1, t2, c0, c1, b0, b1, b2, b3, b4, hS⟩ := HCR.out
    by_cases hlt : i < nB
    · obtain ⟨db, dq, hda, hdc⟩ := (HIB.out.same hD.out).cells (by omega)
      obtain ⟨yb, yq, hya, hyc⟩ := (HY.out.same hS).cells (by have := HNB.out; have := HLE.out; rw [HLX.out, HLY.out] at this; omega)
      subst hda hya
      have hcd := hdc i hlt
      have hyn : i < yn := by have := HNB.out; have := HLE.out; rw [HLX.out, HLY.out] at this; omega
      have hcy := hyc i hyn
      obtain ⟨y, ey⟩ : ∃ y, ys.getD i 0 = y := ⟨_, rfl⟩
      obtain ⟨d, ed⟩ : ∃ d, (eachS (drwF Q e) xs (eachS (ansF Q e) xs ys)).getD i 0 = d := ⟨_, rfl⟩
      have HED := Lib.hid (show addI y 0 Q = d by rw [← ed, eachS_at HLZ.out (by rw [HLX.out, ← HNB.out]; exact hlt), eachS_at HLE.out (by rw [HLX.out, ← HNB.out]; exact hlt), drw_back HGR.out, ey])
      rw [ed] at hcd
      rw [ey] at hcy
      have HYU := Lib.hid (show U64 y by rw [← ey]; exact HY.out.bd i)
      have hi0 : (0 : Int) ≤ i := by omega
      have hi1 : (i : Int) < nB := by omega
      have hi2 : (i : Int) < yn := by omega
      have HCF := Lib.hid (show FkS w gx cx ax yb (yq + i) P Q G H ra rn rc (.slice ta tn tc) (.slice ba bn bc) e (.slice xa xn xc) (.slice (some ⟨yb, yq, none⟩) yn yc) y wr.drew from FkS.same ⟨hcy, HCR.out⟩ (drew_same _))
      clear hdc hyc ey ed hcy
      go_upto_region 17 with fail
      clear t0 t1 t2 c0 c1 b0 b1 b2 b3 b4 hS hcd
      obtain ⟨wd, ewd⟩ : ∃ wd, wr.drew = wd := ⟨_, rfl⟩
      have HD2 := Lib.hid (hD.out.trans (show Same wr wd by rw [← ewd]; exact drew_same _))
      rw [ewd] at HCF
      have HCG := Lib.hid (FkS.fresh HCF.out)
      have EWD := Lib.hid ewd
      clear ewd
      go_region_held3 (fun w' => FkS wd gx cx ax yb (yq + i) P Q G H ra rn rc (.slice ta tn tc) (.slice ba bn bc) e (.slice xa xn xc) (.slice (some ⟨yb, yq, none⟩) yn yc) y w')
        (first
          | (rw [EWD.out]; exact HCG.out)
          | (with_reducible refine FkS.same (by assumption) ?_; with_reducible assumption)
          | assumption
          | go_keep)
        (first
          | (go_at_call 31; refine (raddI_any y 0 Q HYU.out.1 (by decide) HU.out.2.1.1 _).mono ?_; rintro e1 v3 ⟨rfl, hT3⟩; rw [HED.out])
          | fail)
      rename_i hHeld
      have hb2 := Lib.hid (HD2.out.trans hHeld.2.base)
      clear hHeld
      go_wp2_with fail
      go_roundw
      case rel => exact ⟨i + 1, by go_num, by omega, hb2⟩
      case measure => simp [intOf]; omega
    · obtain rfl : i = nB := by omega
      go_wp2_with fail
      go_ret
      exact ⟨rfl, hS⟩
end Go.Proofs.Ytlnkpbaibnfhhaa
