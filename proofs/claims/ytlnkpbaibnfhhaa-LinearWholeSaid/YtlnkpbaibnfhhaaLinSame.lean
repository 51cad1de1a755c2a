/- The same numbers?; does a claim hold for exponents? -/
import Derived.Test.YtlnkpbaibnfhhaaLinImg
import Derived.Test.YtlnkpbaibnfhhaaLinRImg
import Derived.Deep.RegionHeld3
set_option linter.unusedVariables false
set_option linter.unusedSimpArgs false
namespace Go.Proofs.Ytlnkpbaibnfhhaa
open Go.RowKit NT
noncomputable def sameB (xs ys : List Int) : Bool := open Classical in decide (xs = ys)
theorem sameB_yes {xs ys : List Int} (h : xs = ys) : sameB xs ys = true := by unfold sameB; classical exact decide_eq_true h
theorem sameB_no {xs ys : List Int} (h : ¬ xs = ys) : sameB xs ys = false := by unfold sameB; classical exact decide_eq_false h
noncomputable def holdsB6 (P Q : Int) (ts : List Int) (bs : List (List Int)) (ws : List Int) : Bool := imgB P Q ts bs ws && sameB (imgL P Q ts bs ws) ts
theorem holdsB6_no {P Q : Int} {ts : List Int} {bs : List (List Int)} {ws : List Int} (h : ¬ ImgOk P Q ts bs ws) : holdsB6 P Q ts bs ws = false := by unfold holdsB6; rw [imgB_no h]; rfl
theorem holdsB6_ok {P Q : Int} {ts : List Int} {bs : List (List Int)} {ws : List Int} (h : ImgOk P Q ts bs ws) : sameB (imgL P Q ts bs ws) ts = holdsB6 P Q ts bs ws := by unfold holdsB6; rw [imgB_yes h]; rfl
theorem holdsB6_iff {P Q : Int} {ts : List Int} {bs : List (List Int)} {ws : List Int} (h : ImgOk P Q ts bs ws) (e : imageS P Q bs ws = ts) : holdsB6 P Q ts bs ws = true := by rw [← holdsB6_ok h, imgL_yes h, e]; exact sameB_yes rfl
abbrev SmS (W0 : World) (b1 o1 b2 o2 : Nat) (x y : Int) (w : World) : Prop := w.cell? ⟨b1, o1, none⟩ = some (.int .u64 x) ∧ w.cell? ⟨b2, o2, none⟩ = some (.int .u64 y) ∧ Same W0 w
theorem SmS.same {W0 w w' : World} {b1 o1 b2 o2 : Nat} {x y : Int} (h : SmS W0 b1 o1 b2 o2 x y w) (hs : Same w w') : SmS W0 b1 o1 b2 o2 x y w' := ⟨same_cell hs h.1, same_cell hs h.2.1, h.2.2.trans hs⟩
theorem rsame_any (a b : Option Addr) (n m ca cb : Nat) (xs ys : List Int) (w : World) (hx : IntsAt w a n xs) (hy : IntsAt w b m ys) :
    Calls Try.prog 17 #[.slice a n ca, .slice b m cb] w fun z w' => z = .returned (.bool (sameB xs ys)) ∧ Same w w' := by
  have HX := Lib.hid hx
  have HY := Lib.hid hy
  have HLX := Lib.hid hx.len
  have HLY := Lib.hid hy.len
  have hsx := hx.small
  have hsy := hy.small
  clear hx hy
  by_cases hnm : n = m
  case neg =>
    have d0 : ((n : Int) != m) = true := by simp; omega
    have HV := Lib.hid (sameB_no (xs := xs) (ys := ys) (fun e => hnm (by rw [← HLX.out, ← HLY.out, e])))
    go_enter Try.func17, Try.ntmps17
    go_wp2_with fail
    go_ret
    exact ⟨ret_bool HV.out.symm, Same.refl _⟩
  subst hnm
  have d0 : ((n : Int) != n) = false := by simp
  go_enter Try.func17, Try.ntmps17
  go_wp2_with fail
  go_loopw [5] (fun s5 wr => ∃ i : Nat, s5 = .int .i64 i ∧ i ≤ n ∧ Hid (∀ j, j < i → xs.getD j 0 = ys.getD j 0) ∧ Same w wr) (fun s5 _ => n - (intOf s5).toNat)
  case atStart => exact ⟨0, rfl, by omega, fun j hj => by omega, Same.refl _⟩
  case round =>
    obtain ⟨i, rfl, hi, hup, hD⟩ := hrel
    by_cases hlt : i < n
    · obtain ⟨xb, xo, hxa, hxc⟩ := HX.out.cells (by omega)
      obtain ⟨yb, yo, hya, hyc⟩ := HY.out.cells (by omega)
      subst hxa hya
      have hc := hxc i hlt
      have hd := hyc i hlt
      obtain ⟨x, ex⟩ : ∃ x, xs.getD i 0 = x := ⟨_, rfl⟩
      obtain ⟨y, ey⟩ : ∃ y, ys.getD i 0 = y := ⟨_, rfl⟩
      rw [ex] at hc
      rw [ey] at hd
      have HEX := Lib.hid ex
      have HEY := Lib.hid ey
      have HS0 := Lib.hid (show SmS w xb (xo + i) yb (yo + i) x y wr.drew from SmS.same ⟨same_cell hD hc, same_cell hD hd, hD⟩ (drew_same _))
      have hi0 : (0 : Int) ≤ i := by omega
      have hi1 : (i : Int) < n := by omega
      clear hxc hyc ex ey hc hd hD
      by_cases hxy : x = y
      · have d1 : (x != y) = false := by rw [hxy]; simp
        have hup2 : Hid (∀ j, j < i + 1 → xs.getD j 0 = ys.getD j 0) := fun j hj => by
          by_cases e : j = i
          · subst e; rw [HEX.out, HEY.out]; exact hxy
          · exact hup.out j (by omega)
        clear hxy hup
        go_upto_region 6 with fail
        go_region_held3 (fun w' => SmS w xb (xo + i) yb (yo + i) x y w')
          (first
            | exact HS0.out
            | assumption
            | go_keep)
          (fail)
        rename_i hHeld
        have HH := Lib.hid hHeld.2.2
        clear hHeld HS0
        go_wp2_with fail
        go_roundw
        case rel => exact ⟨i + 1, by go_num, by omega, hup2, HH.out⟩
        case measure => simp [intOf]; omega
      · have d1 : (x != y) = true := by rw [bne_iff_ne]; exact hxy
        have HV := Lib.hid (sameB_no (xs := xs) (ys := ys) (fun e => hxy (by rw [← HEX.out, ← HEY.out, e])))
        clear hxy hup
        go_upto_region 6 with fail
        go_region_held3 (fun w' => SmS w xb (xo + i) yb (yo + i) x y w')
          (first
            | exact HS0.out
            | assumption
            | go_keep)
          (fail)
        rename_i hHeld
        go_wp2_with fail
        go_ret
        exact ⟨ret_bool HV.out.symm, hHeld.2.2⟩
    · obtain rfl : i = n := by omega
      have HV := Lib.hid (sameB_yes (xs := xs) (ys := ys) (list_ext (by rw [HLX.out, HLY.out]) (fun j hj => hup.out j (by rw [← HLX.out]; exact hj))))
      clear hup
      go_wp2_with fail
      go_ret
      exact ⟨ret_bool HV.out.symm, hD⟩
theorem equal_any (a b : Option Addr) (n m ca cb : Nat) (xs ys : List Int) (w : World) (hx : IntsAt w a n xs) (hy : IntsAt w b m ys) :
    Calls Try.prog 42 #[.slice a n ca, .slice b m cb] w fun z w' => z = .returned (.bool (sameB xs ys)) ∧ Same w w' := by
  have HX := Lib.hid hx
  have HY := Lib.hid hy
  have HLX := Lib.hid hx.len
  have HLY := Lib.hid hy.len
  have hsx := hx.small
  have hsy := hy.small
  clear hx hy
  by_cases hnm : n = m
  case neg =>
    have d0 : ((n : Int) != m) = true := by simp; omega
    have HV := Lib.hid (sameB_no (xs := xs) (ys := ys) (fun e => hnm (by rw [← HLX.out, ← HLY.out, e])))
    go_enter Try.func42, Try.ntmps42
    go_wp2_with fail
    go_ret
    exact ⟨ret_bool HV.out.symm, Same.refl _⟩
  subst hnm
  have d0 : ((n : Int) != n) = false := by simp
  go_enter Try.func42, Try.ntmps42
  go_wp2_with fail
  go_loopw [13] (fun s5 wr => ∃ i : Nat, s5 = .int .i64 i ∧ i ≤ n ∧ Hid (∀ j, j < i → xs.getD j 0 = ys.getD j 0) ∧ Same w wr) (fun s5 _ => n - (intOf s5).toNat)
  case atStart => exact ⟨0, rfl, by omega, fun j hj => by omega, Same.refl _⟩
  case round =>
    obtain ⟨i, rfl, hi, hup, hD⟩ := hrel
    by_cases hlt : i < n
    · obtain ⟨xb, xo, hxa, hxc⟩ := HX.out.cells (by omega)
      obtain ⟨yb, yo, hya, hyc⟩ := HY.out.cells (by omega)
      subst hxa hya
      have hc := hxc i hlt
      have hd := hyc i hlt
      obtain ⟨x, ex⟩ : ∃ x, xs.getD i 0 = x := ⟨_, rfl⟩
      obtain ⟨y, ey⟩ : ∃ y, ys.getD i 0 = y := ⟨_, rfl⟩
      rw [ex] at hc
      rw [ey] at hd
      have HEX := Lib.hid ex
      have HEY := Lib.hid ey
      have HS0 := Lib.hid (show SmS w xb (xo + i) yb (yo + i) x y wr.drew from SmS.same ⟨same_cell hD hc, same_cell hD hd, hD⟩ (drew_same _))
      have hi0 : (0 : Int) ≤ i := by omega
      have hi1 : (i : Int) < n := by omega
      clear hxc hyc ex ey hc hd hD
      by_cases hxy : x = y
      · have d1 : (x != y) = false := by rw [hxy]; simp
        have hup2 : Hid (∀ j, j < i + 1 → xs.getD j 0 = ys.getD j 0) := fun j hj => by
          by_cases e : j = i
          · subst e; rw [HEX.out, HEY.out]; exact hxy
          · exact hup.out j (by omega)
        clear hxy hup
        go_upto_region 6 with fail
        go_region_held3 (fun w' => SmS w xb (xo + i) yb (yo + i) x y w')
          (first
            | exact HS0.out
            | assumption
            | go_keep)
          (fail)
        rename_i hHeld
        have HH := Lib.hid hHeld.2.2
        clear hHeld HS0
        go_wp2_with fail
        go_roundw
        case rel => exact ⟨i + 1, by go_num, by omega, hup2, HH.out⟩
        case measure => simp [intOf]; omega
      · have d1 : (x != y) = true := by rw [bne_iff_ne]; exact hxy
        have HV := Lib.hid (sameB_no (xs := xs) (ys := ys) (fun e => hxy (by rw [← HEX.out, ← HEY.out, e])))
        clear hxy hup
        go_upto_region 6 with fail
        go_region_held3 (fun w' => SmS w xb (xo + i) yb (yo + i) x y w')
          (first
            | exact HS0.out
            | assumption
            | go_keep)
          (fail)
        rename_i hHeld
        go_wp2_with fail
        go_ret
        exact ⟨ret_bool HV.out.symm, hHeld.2.2⟩
    · obtain rfl : i = n := by omega
      have HV := Lib.hid (sameB_yes (xs := xs) (ys := ys) (list_ext (by rw [HLX.out, HLY.out]) (fun j hj => hup.out j (by rw [← HLX.out]; exact hj))))
      clear hup
      go_wp2_with fail
      go_ret
      exact ⟨ret_bool HV.out.symm, hD⟩
set_option maxHeartbeats 800000 in
theorem holds6_any (P Q G H : Int) (ra : Option Addr) (rn rc : Nat) (ta ba wa : Option Addr) (tn tc bn bc wn wc : Nat) (ts : List Int) (bs : List (List Int)) (ws : List Int) (hP : U64 P) (hQ : U64 Q) (hgrp : GrpP P Q) (w : World) (ht : IntsAt w ta tn ts) (hb : MatAt w ba bn bs) (hw : IntsAt w wa wn ws) :
    Calls Try.prog 18 #[.agg #[.int .u64 P, .int .u64 Q, .int .u64 G, .int .u64 H, .slice ra rn rc], .agg #[.slice ta tn tc, .slice ba bn bc], .slice wa wn wc] w fun z w' => z = .returned (.bool (holdsB6 P Q ts bs ws)) ∧ Same w w' := by
  obtain ⟨W, gx, cx, eW, eg, ec, hB⟩ := par_claim w P Q G H ra rn rc (.slice ta tn tc) (.slice ba bn bc)
  have EW := Lib.hid eW
  have EG := Lib.hid eg
  have EC := Lib.hid ec
  have HT := Lib.hid ht
  have HM := Lib.hid hb
  have HW := Lib.hid hw
  have HB := Lib.hid hB
  clear eW eg ec ht hb hw hB
  obtain ⟨c0, c1, b0, b1, b2, b3, b4, hS⟩ := HB.out
  go_enter Try.func18, Try.ntmps18
  go_upto_region 1 with fail
  rw [EW.out, EG.out, EC.out]
  go_wp2_with fail
  refine (image_any P Q G H ra rn rc ta ba wa tn tc bn bc wn wc ts bs ws hP hQ hgrp _ (HT.out.same hS) (HM.out.same hS) (HW.out.same hS)).mono ?_
  rintro e1 w1 ⟨ia, im, ic, rfl, hi, hT⟩
  have HI := Lib.hid hi
  replace HB := Lib.hid (ClS.same HB.out hT)
  clear c0 c1 b0 b1 b2 b3 b4 hS hT hi
  obtain ⟨c0, c1, b0, b1, b2, b3, b4, hS⟩ := HB.out
  by_cases hok : ImgOk P Q ts bs ws
  case neg =>
    have HV := Lib.hid (holdsB6_no (P := P) (Q := Q) (ts := ts) (bs := bs) (ws := ws) hok)
    rw [imgB_no hok]
    clear hok
    go_wp2_with fail
    go_ret
    exact ⟨ret_bool HV.out.symm, hS⟩
  have HV := Lib.hid (holdsB6_ok (P := P) (Q := Q) (ts := ts) (bs := bs) (ws := ws) hok)
  rw [imgB_yes hok]
  clear hok
  go_wp2_with fail
  refine (equal_any ia ta im tn ic tc _ ts _ HI.out (HT.out.same hS)).mono ?_
  rintro e1 w2 ⟨rfl, hT⟩
  rw [HV.out]
  go_wp2_with fail
  go_ret
  exact ⟨rfl, hS.trans hT⟩
set_option maxHeartbeats 800000 in
theorem rholds6_any (P Q G H : Int) (ra : Option Addr) (rn rc : Nat) (ta ba wa : Option Addr) (tn tc bn bc wn wc : Nat) (ts : List Int) (bs : List (List Int)) (ws : List Int) (hP : U64 P) (hQ : U64 Q) (w : World) (ht : IntsAt w ta tn ts) (hb : MatAt w ba bn bs) (hw : IntsAt w wa wn ws) :
    Calls Try.prog 19 #[.agg #[.int .u64 P, .int .u64 Q, .int .u64 G, .int .u64 H, .slice ra rn rc], .agg #[.slice ta tn tc, .slice ba bn bc], .slice wa wn wc] w fun z w' => z = .returned (.bool (holdsB6 P Q ts bs ws)) ∧ Same w w' := by
  obtain ⟨W, gx, cx, eW, eg, ec, hB⟩ := par_claim w P Q G H ra rn rc (.slice ta tn tc) (.slice ba bn bc)
  have EW := Lib.hid eW
  have EG := Lib.hid eg
  have EC := Lib.hid ec
  have HT := Lib.hid ht
  have HM := Lib.hid hb
  have HW := Lib.hid hw
  have HB := Lib.hid hB
  clear eW eg ec ht hb hw hB
  obtain ⟨c0, c1, b0, b1, b2, b3, b4, hS⟩ := HB.out
  go_enter Try.func19, Try.ntmps19
  go_upto_region 1 with fail
  rw [EW.out, EG.out, EC.out]
  go_wp2_with fail
  refine (rimage_any P Q G H ra rn rc ta ba wa tn tc bn bc wn wc ts bs ws hP hQ _ (HT.out.same hS) (HM.out.same hS) (HW.out.same hS)).mono ?_
  rintro e1 w1 ⟨ia, im, ic, rfl, hi, hT⟩
  have HI := Lib.hid hi
  replace HB := Lib.hid (ClS.same HB.out hT)
  clear c0 c1 b0 b1 b2 b3 b4 hS hT hi
  obtain ⟨c0, c1, b0, b1, b2, b3, b4, hS⟩ := HB.out
  by_cases hok : ImgOk P Q ts bs ws
  case neg =>
    have HV := Lib.hid (holdsB6_no (P := P) (Q := Q) (ts := ts) (bs := bs) (ws := ws) hok)
    rw [imgB_no hok]
    clear hok
    go_wp2_with fail
    go_ret
    exact ⟨ret_bool HV.out.symm, hS⟩
  have HV := Lib.hid (holdsB6_ok (P := P) (Q := Q) (ts := ts) (bs := bs) (ws := ws) hok)
  rw [imgB_yes hok]
  clear hok
  go_wp2_with fail
  refine (rsame_any ia ta im tn ic tc _ ts _ HI.out (HT.out.same hS)).mono ?_
  rintro e1 w2 ⟨rfl, hT⟩
  rw [HV.out]
  go_wp2_with fail
  go_ret
  exact ⟨rfl, hS.trans hT⟩
end Go.Proofs.Ytlnkpbaibnfhhaa
