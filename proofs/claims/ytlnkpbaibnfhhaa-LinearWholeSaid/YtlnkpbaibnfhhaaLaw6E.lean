/- The walk of LinearWhole. -/
import Derived.Test.YtlnkpbaibnfhhaaLinQ
import Derived.Test.YtlnkpbaibnfhhaaLaw6A
import Derived.Test.YtlnkpbaibnfhhaaLaw6C
import Derived.Test.YtlnkpbaibnfhhaaClaim6
set_option linter.unusedVariables false
set_option linter.unusedSimpArgs false
set_option pp.deepTerms true
set_option pp.maxSteps 1000000
namespace Go.Proofs.Ytlnkpbaibnfhhaa
open Go.RowKit NT
set_option maxRecDepth 100000 in
set_option maxHeartbeats 6400000 in
theorem lawWhole (P Q G H : Int) (ra : Option Addr) (rn rc : Nat) (rs : List RowD) (ba xa ya : Option Addr) (bn bc xn xc yn yc : Nat) (bs : List (List Int)) (e : Int) (xs ys : List Int) (hP : U64 P) (hQ : U64 Q) (hG : U64 G) (hH : U64 H) (he : U64 e) (hbn : bn * 24 ≤ 140737488355328) (w : World) (h : RowsAt w ra rn rs) (hb : MatAt w ba bn bs) (hx : IntsAt w xa xn xs) (hy : IntsAt w ya yn ys) :
    Calls Try.prog 4 #[.agg #[.int .u64 P, .int .u64 Q, .int .u64 G, .int .u64 H, .slice ra rn rc], .slice ba bn bc, .agg #[.int .u64 e, .slice xa xn xc, .slice ya yn yc]] w fun e w' => e = .returned (.bool true) ∧ Same w w' := by
  obtain ⟨W, gx, ax, eW, eg, ea, hB⟩ := par_talk w P Q G H ra rn rc e (.slice xa xn xc) (.slice ya yn yc)
  have EW := Lib.hid eW
  have EG := Lib.hid eg
  have EA := Lib.hid ea
  have H1 := Lib.hid h
  have HM := Lib.hid hb
  have HX := Lib.hid hx
  have HY := Lib.hid hy
  have HLX := Lib.hid hx.len
  have HLY := Lib.hid hy.len
  have HSZ := Lib.hid (And.intro hx.small hy.small)
  have HU := Lib.hid (And.intro hP (And.intro hQ (And.intro hG hH)))
  have HE := Lib.hid he
  have HBN := Lib.hid hbn
  clear eW eg ea h hb hx hy hP hQ hG hH he hbn
  go_enter Try.func4, Try.ntmps4
  go_upto_region 1 with fail
  rw [EW.out, EG.out, EA.out]
  go_wp2_with fail
  refine (awake6 _).mono ?_
  rintro e1 w1 ⟨rfl, hT⟩
  have HB := Lib.hid (TkS.same hB hT)
  clear hB hT
  obtain ⟨t0, t1, t2, b0, b1, b2, b3, b4, hS⟩ := HB.out
  go_wp2_with fail
  refine (group5_any P Q G H ra rn rc rs HU.out.1 HU.out.2.1 HU.out.2.2.1 HU.out.2.2.2 _ (H1.out.same hS)).mono ?_
  rintro e1 w2 ⟨rfl, hT⟩
  by_cases hg : GoodP P Q G H rs
  case neg =>
    rw [goodB_no hg]
    clear hg
    go_wp2_with fail
    go_ret
    exact ⟨rfl, hS.trans hT⟩
  rw [goodB_yes hg]
  have HGR := Lib.hid hg.2.grp
  replace HB := Lib.hid (TkS.same HB.out hT)
  clear hg t0 t1 t2 b0 b1 b2 b3 b4 hS hT
  obtain ⟨t0, t1, t2, b0, b1, b2, b3, b4, hS⟩ := HB.out
  go_wp2_with fail
  refine (claim_any P Q G H ra rn rc ba xa bn bc xn xc bs xs HU.out.1 HU.out.2.1 HBN.out _ (HM.out.same hS) (HX.out.same hS)).mono ?_
  rintro e1 w3 ⟨ta, tn, tc, rfl, hti, hT⟩
  obtain ⟨cb, ecb⟩ : ∃ cb, claimB P Q bs xs = cb := ⟨_, rfl⟩
  have HCB := Lib.hid ecb
  have HTI := Lib.hid hti
  rw [ecb]
  replace HB := Lib.hid (TkS.same HB.out hT)
  clear ecb hti t0 t1 t2 b0 b1 b2 b3 b4 hS hT
  obtain ⟨t0, t1, t2, b0, b1, b2, b3, b4, hS⟩ := HB.out
  go_upto_region 6 with fail
  obtain ⟨w4, ew4⟩ : ∃ w4, w3.alloc (.cells #[.slice ta tn tc, .slice ba bn bc] 29) = w4 := ⟨_, rfl⟩
  obtain ⟨cx, ecx⟩ : ∃ cx, w3.heap.size = cx := ⟨_, rfl⟩
  have hS4 : Same w3 w4 := by rw [← ew4]; exact (Same.refl w3).alloc _
  have hc0 : w4.cell? ⟨cx, 0, none⟩ = some (.slice ta tn tc) := by rw [← ew4, ← ecx]; simp [World.cell?_alloc_new]
  have hc1 : w4.cell? ⟨cx, 1, none⟩ = some (.slice ba bn bc) := by rw [← ew4, ← ecx]; simp [World.cell?_alloc_new]
  rw [ew4, ecx]
  have HCT := Lib.hid (show CTS w gx cx ax P Q G H ra rn rc (.slice ta tn tc) (.slice ba bn bc) e (.slice xa xn xc) (.slice ya yn yc) w4 from ⟨same_cell hS4 t0, same_cell hS4 t1, same_cell hS4 t2, hc0, hc1, BoxS.same HB.out.2.2.2 hS4⟩)
  have HS4 := Lib.hid hS4
  clear ew4 ecx t0 t1 t2 b0 b1 b2 b3 b4 hS hS4 hc0 hc1 HB
  obtain ⟨t0, t1, t2, c0, c1, b0, b1, b2, b3, b4, hS⟩ := HCT.out
  cases cb
  · go_wp2_with fail
    go_ret
    exact ⟨rfl, hS⟩
  have hsx := HSZ.out.1
  have hsy := HSZ.out.2
  by_cases hl : yn = xn
  case neg =>
    have d0 : ((yn : Int) != xn) = true := by simp; omega
    go_wp2_with fail
    go_ret
    exact ⟨rfl, hS⟩
  have d0 : ((yn : Int) != xn) = false := by simp; omega
  have HOK := Lib.hid (claim_parts HCB.out)
  have HTS := Lib.hid ((HTI.out HCB.out).same HS4.out)
  have HLE := Lib.hid (show xs.length = ys.length by rw [HLX.out, HLY.out, hl])
  have hx8 : xn ≤ 1000 := by have := HOK.out.2; rw [HLX.out] at this; omega
  clear hl hsx hsy
  go_wp2_with fail
  refine (image_any P Q G H ra rn rc ta ba ya tn tc bn bc yn yc _ bs ys HU.out.1 HU.out.2.1 HGR.out _ HTS.out (HM.out.same hS) (HY.out.same hS)).mono ?_
  rintro e1 w5 ⟨aD, nD, cD, rfl, hi, hT⟩
  have HOY := Lib.hid (show ImgOk P Q (imageS P Q bs xs) bs ys from ⟨(claim_ok HGR.out HOK.out.1 (fun i => (HX.out.bd i).1)).1, by rw [← HLE.out]; exact HOK.out.1.2⟩)
  rw [imgB_yes HOY.out]
  have ID := Lib.hid (show IntsAt w5 aD nD (imageS P Q bs ys) by have h2 := hi; rw [imgL_yes HOY.out] at h2; exact h2)
  replace HCT := Lib.hid (CTS.same HCT.out hT)
  replace HTS := Lib.hid (HTS.out.same hT)
  clear t0 t1 t2 c0 c1 b0 b1 b2 b3 b4 hS hT hi d0
  obtain ⟨t0, t1, t2, c0, c1, b0, b1, b2, b3, b4, hS⟩ := HCT.out
  go_wp2_with fail
  refine (ans_any P Q G H ra rn rc e xa ya xn xc yn yc xs ys HU.out.1 HU.out.2.1 HE.out hx8 _ (HX.out.same hS) (HY.out.same hS)).mono ?_
  rintro e1 w6 ⟨aZ, nZ, cZ, rfl, hi, hT⟩
  rw [lenB_yes HLE.out]
  have IZ := Lib.hid hi
  replace ID := Lib.hid (ID.out.same hT)
  replace HCT := Lib.hid (CTS.same HCT.out hT)
  replace HTS := Lib.hid (HTS.out.same hT)
  clear t0 t1 t2 c0 c1 b0 b1 b2 b3 b4 hS hT hi
  obtain ⟨t0, t1, t2, c0, c1, b0, b1, b2, b3, b4, hS⟩ := HCT.out
  go_wp2_with fail
  refine (holds6_any P Q G H ra rn rc ta ba xa tn tc bn bc xn xc _ bs xs HU.out.1 HU.out.2.1 HGR.out _ HTS.out (HM.out.same hS) (HX.out.same hS)).mono ?_
  rintro e1 w7 ⟨rfl, hT⟩
  rw [whole_holds HGR.out HOK.out.1 (fun i => (HX.out.bd i).1)]
  replace ID := Lib.hid (ID.out.same hT)
  replace IZ := Lib.hid (IZ.out.same hT)
  replace HCT := Lib.hid (CTS.same HCT.out hT)
  replace HTS := Lib.hid (HTS.out.same hT)
  clear t0 t1 t2 c0 c1 b0 b1 b2 b3 b4 hS hT
  obtain ⟨t0, t1, t2, c0, c1, b0, b1, b2, b3, b4, hS⟩ := HCT.out
  go_wp2_with fail
  refine (accepts_any P Q G H ra rn rc ta ba aD aZ tn tc bn bc nD cD nZ cZ _ bs _ e _ HU.out.1 HU.out.2.1 HE.out HGR.out _ HTS.out (HM.out.same hS) ID.out IZ.out).mono ?_
  rintro e1 w8 ⟨rfl, hT⟩
  rw [accB_yes (whole_acc HGR.out HE.out.1 HOK.out.1 HLE.out (fun i => (HX.out.bd i).1) (fun i => (HY.out.bd i).1))]
  go_wp2_with fail
  go_ret
  exact ⟨rfl, hS.trans hT⟩
end Go.Proofs.Ytlnkpbaibnfhhaa
