/- The walk of GroupLays. -/
import Derived.Test.YtdinemhodnleeaaLaw4
import Derived.Test.YtdinemhodnleeaaLayN
set_option linter.unusedVariables false
set_option linter.unusedSimpArgs false
namespace Go.Proofs.Ytdinemhodnleeaa
open Go.RowKit NT
set_option maxHeartbeats 1600000 in
theorem lawLays (P Q G H : Int) (ra : Option Addr) (rn rc : Nat) (rs : List RowD) (k : Int) (hF : Fine rs) (hP : U64 P) (hQ : U64 Q) (hG : U64 G) (hH : U64 H) (hk : U64 k) (w : World) (h : RowsAt w ra rn rs) :
    Calls Try.prog 4 #[.agg #[.int .u64 P, .int .u64 Q, .int .u64 G, .int .u64 H, .slice ra rn rc], .int .u64 k] w fun e w' => e = .returned (.bool true) ∧ Same w w' := by
  obtain ⟨W, bx, eW, eb, hS, c0, c1, c2, c3, c4⟩ := par_box w P Q G H (.slice ra rn rc)
  have EW := Lib.hid eW
  have EB := Lib.hid eb
  clear eW eb
  have hB0 : BoxS W bx P Q G H ra rn rc W := ⟨c0, c1, c2, c3, c4, Same.refl W⟩
  have h1 := h.same hS
  clear h
  have HU := Lib.hid (And.intro hP (And.intro hQ (And.intro hG (And.intro hH hk))))
  have HF := Lib.hid hF
  clear hP hQ hG hH hF hk c0 c1 c2 c3 c4
  go_enter Try.func4, Try.ntmps4
  go_upto_region 1 with fail
  rw [EW.out, EB.out]
  go_wp2_with fail
  refine (awake4 _).mono ?_
  rintro e1 w1 ⟨rfl, hS1⟩
  have hB1 := hB0.same hS1
  obtain ⟨b0, b1, b2, b3, b4, hS3⟩ := hB1
  go_wp2_with fail
  refine (few_any P Q G H ra rn rc rs _ (h1.same hS3)).mono ?_
  rintro e1 w2 ⟨rfl, hS2⟩
  have hB2 := BoxS.same (W0 := W) ⟨b0, b1, b2, b3, b4, hS3⟩ hS2
  clear b0 b1 b2 b3 b4 hS1 hS2 hS3 hB0
  obtain ⟨b0, b1, b2, b3, b4, hS3⟩ := hB2
  by_cases hs : SmallP rs
  case neg =>
    rw [smallB_no hs]
    clear hs
    go_wp2_with fail
    go_ret
    exact ⟨rfl, hS.trans hS3⟩
  rw [smallB_yes hs]
  clear hs
  go_wp2_with fail
  refine (right_any P Q G H ra rn rc rs HU.out.1 HU.out.2.1 HU.out.2.2.1 HU.out.2.2.2.1 _ (h1.same hS3)).mono ?_
  rintro e1 w3 ⟨rfl, hS4⟩
  have hB3 := BoxS.same (W0 := W) ⟨b0, b1, b2, b3, b4, hS3⟩ hS4
  clear b0 b1 b2 b3 b4 hS3 hS4
  obtain ⟨b0, b1, b2, b3, b4, hS3⟩ := hB3
  by_cases hr : RightP P Q G H rs
  case neg =>
    rw [grpB_no hr]
    clear hr
    go_wp2_with fail
    go_ret
    exact ⟨rfl, hS.trans hS3⟩
  rw [grpB_yes hr]
  have HR := Lib.hid hr
  clear hr
  go_wp2_with fail
  refine (lay_any P Q G H ra rn rc k HR.out.2.2.1 HR.out.1 HR.out.2.1 HU.out.2.2.2.2 _).mono ?_
  rintro e1 w4 ⟨rfl, hS4⟩
  have hB4 := BoxS.same (W0 := W) ⟨b0, b1, b2, b3, b4, hS3⟩ hS4
  clear b0 b1 b2 b3 b4 hS3 hS4
  obtain ⟨b0, b1, b2, b3, b4, hS3⟩ := hB4
  obtain ⟨x, hx⟩ : ∃ x, layV P Q k = x := ⟨_, rfl⟩
  have HX := Lib.hid hx
  obtain ⟨ok, hok⟩ : ∃ ok, decide (k < Q) = ok := ⟨_, rfl⟩
  have HOK := Lib.hid hok
  rw [hx, hok]
  clear hx hok
  go_wp2_with fail
  refine (rlay_any P Q G H ra rn rc k HR.out.2.2.1 HR.out.1 HR.out.2.1 HU.out.2.2.2.2 _).mono ?_
  rintro e1 w5 ⟨rfl, hS4⟩
  have hB4 := BoxS.same (W0 := W) ⟨b0, b1, b2, b3, b4, hS3⟩ hS4
  clear b0 b1 b2 b3 b4 hS3 hS4
  obtain ⟨b0, b1, b2, b3, b4, hS3⟩ := hB4
  rw [HX.out, HOK.out]
  go_wp2_with fail
  refine (back_any P Q G H ra rn rc k HR.out.2.2.1 HR.out.1 HR.out.2.1 HU.out.2.2.2.2 _).mono ?_
  rintro e1 w6 ⟨rfl, hS4⟩
  have hB4 := BoxS.same (W0 := W) ⟨b0, b1, b2, b3, b4, hS3⟩ hS4
  clear b0 b1 b2 b3 b4 hS3 hS4
  obtain ⟨b0, b1, b2, b3, b4, hS3⟩ := hB4
  obtain ⟨n, hn⟩ : ∃ n, backV P Q k = n := ⟨_, rfl⟩
  have HN := Lib.hid hn
  obtain ⟨back, hback⟩ : ∃ back, inB P Q k = back := ⟨_, rfl⟩
  have HBK := Lib.hid hback
  rw [hn, hback]
  clear hn hback
  go_wp2_with fail
  refine (rback_any P Q G H ra rn rc k HR.out.2.2.1 HR.out.1 HR.out.2.1 HU.out.2.2.2.2 _).mono ?_
  rintro e1 w7 ⟨rfl, hS4⟩
  have hB4 := BoxS.same (W0 := W) ⟨b0, b1, b2, b3, b4, hS3⟩ hS4
  clear b0 b1 b2 b3 b4 hS3 hS4
  obtain ⟨b0, b1, b2, b3, b4, hS3⟩ := hB4
  rw [HN.out, HBK.out]
  have hlb := fun h : k < Q => lay_back HF.out HR.out HU.out.2.2.2.2.1 h
  have HLB := Lib.hid hlb
  have hbl := fun h : InP P Q k => back_lay HF.out HR.out h
  have HBL := Lib.hid hbl
  clear hlb hbl
  cases ok
  · cases back
    · go_wp2_with fail
      go_ret
      exact ⟨rfl, hS.trans hS3⟩
    · have hin := HBL.out (inB_iff.1 HBK.out)
      rw [HN.out] at hin
      go_wp2_with fail
      refine (lay_any P Q G H ra rn rc n HR.out.2.2.1 HR.out.1 HR.out.2.1 ⟨hin.2.1, by have := HU.out.2.1.2; have := hin.1; omega⟩ _).mono ?_
      rintro e1 w8 ⟨rfl, hS4⟩
      rw [hin.2.2, decide_eq_true hin.1]
      go_wp2_with fail
      go_ret
      exact ⟨ret_bool (by simp), hS.trans (hS3.trans hS4)⟩
  · have hlay := HLB.out (of_decide_eq_true HOK.out)
    rw [HX.out] at hlay
    have hxu : U64 x := ⟨by have := hlay.1.1; omega, by have := hlay.1.2.1; have := HU.out.1.2; omega⟩
    go_wp2_with fail
    refine (back_any P Q G H ra rn rc x HR.out.2.2.1 HR.out.1 HR.out.2.1 hxu _).mono ?_
    rintro e1 w8 ⟨rfl, hS4⟩
    have hB4 := BoxS.same (W0 := W) ⟨b0, b1, b2, b3, b4, hS3⟩ hS4
    clear b0 b1 b2 b3 b4 hS3 hS4
    obtain ⟨b0, b1, b2, b3, b4, hS3⟩ := hB4
    have HL1 := Lib.hid hlay.1
    rw [hlay.2, inB_yes hlay.1]
    clear hlay
    go_wp2_with fail
    refine (in_any P Q G H ra rn rc x HU.out.1.1 HU.out.2.1.1 HU.out.2.1.2 hxu.1 _).mono ?_
    rintro e1 w9 ⟨rfl, hS4⟩
    have hB4 := BoxS.same (W0 := W) ⟨b0, b1, b2, b3, b4, hS3⟩ hS4
    clear b0 b1 b2 b3 b4 hS3 hS4
    obtain ⟨b0, b1, b2, b3, b4, hS3⟩ := hB4
    rw [inB_yes HL1.out]
    cases back
    · go_wp2_with fail
      go_ret
      exact ⟨rfl, hS.trans hS3⟩
    · have hin := HBL.out (inB_iff.1 HBK.out)
      rw [HN.out] at hin
      go_wp2_with fail
      refine (lay_any P Q G H ra rn rc n HR.out.2.2.1 HR.out.1 HR.out.2.1 ⟨hin.2.1, by have := HU.out.2.1.2; have := hin.1; omega⟩ _).mono ?_
      rintro e1 wa ⟨rfl, hS4⟩
      rw [hin.2.2, decide_eq_true hin.1]
      go_wp2_with fail
      go_ret
      exact ⟨ret_bool (by simp), hS.trans (hS3.trans hS4)⟩
end Go.Proofs.Ytdinemhodnleeaa
