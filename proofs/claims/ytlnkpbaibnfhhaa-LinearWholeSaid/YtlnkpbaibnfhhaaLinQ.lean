/- Layer 6: of a claim whose targets are the image: plain Lean, no program in it. -/
import Derived.Test.YtlnkpbaibnfhhaaLinP
import Derived.Test.YtlnkpbaibnfhhaaClaim6
set_option linter.unusedVariables false
set_option linter.unusedSimpArgs false
namespace Go.Proofs.Ytlnkpbaibnfhhaa
open Go.RowKit NT
theorem claim_parts {P Q : Int} {bs : List (List Int)} {ws : List Int} (h : claimB P Q bs ws = true) : ImgOk P Q (ones bs.length) bs ws ∧ ws.length ≤ 80 := by
  unfold claimB at h
  by_cases hf : FewP (ones bs.length) bs [ws]
  · rw [fewB_yes hf, Bool.true_and] at h
    by_cases ho : ImgOk P Q (ones bs.length) bs ws
    · refine ⟨ho, ?_⟩
      have := hf.2.2.2 0 (by simp)
      simpa using this
    · rw [imgB_no ho] at h; cases h
  · rw [fewB_no hf] at h; cases h
theorem image_all {P Q : Int} (h : GrpP P Q) {bs : List (List Int)} {ws : List Int} (hrows : ∀ j, j < bs.length → AllE P Q (bs.getD j [])) (hw : ∀ i, 0 ≤ ws.getD i 0) : AllE P Q (imageS P Q bs ws) :=
  AllE.of (fun j hj => by rw [imageS_len] at hj; rw [imgAt hj]; exact img_el h (hrows j hj) hw _ (Nat.le_refl _))
theorem claim_ok {P Q : Int} (h : GrpP P Q) {bs : List (List Int)} {ws : List Int} (ho : ImgOk P Q (ones bs.length) bs ws) (hw : ∀ i, 0 ≤ ws.getD i 0) : ImgOk P Q (imageS P Q bs ws) bs ws := by
  have hc := ho.1
  refine ⟨⟨by rw [imageS_len, hc.b]; exact hc.t0, by rw [imageS_len, hc.b]; exact hc.t64, by rw [imageS_len], image_all h (fun j hj => rowAll hc hj) hw, hc.n0, hc.n64, hc.rows⟩, ho.2⟩
theorem whole_holds {P Q : Int} (h : GrpP P Q) {bs : List (List Int)} {ws : List Int} (ho : ImgOk P Q (ones bs.length) bs ws) (hw : ∀ i, 0 ≤ ws.getD i 0) : holdsB6 P Q (imageS P Q bs ws) bs ws = true := holdsB6_iff (claim_ok h ho hw) rfl
/-- the image of answers -/
theorem img_ans {P Q : Int} (h : GrpP P Q) {bs : List (List Int)} {xs ys : List Int} {e : Int} (ho : ImgOk P Q (ones bs.length) bs xs) (hl : xs.length = ys.length) (hx : ∀ i, 0 ≤ xs.getD i 0) (hy : ∀ i, 0 ≤ ys.getD i 0) {j : Nat} (hj : j < bs.length) :
    Cg P.toNat ((imageS P Q bs (eachS (ansF Q e) xs ys)).getD j 0).toNat (((imageS P Q bs xs).getD j 0).toNat ^ e.toNat * ((imageS P Q bs ys).getD j 0).toNat) := by
  rw [imgAt hj, imgAt hj, imgAt hj]
  refine img_lin (D := e.toNat) h (rowAll ho.1 hj) (eachS_nonneg hl (fun a b => (ansF_u _ _ a b).1)) hx hy _ (Nat.le_refl _) (fun i hi => ?_)
  have hi2 : i < xs.length := by rw [ho.2, ← (ho.1.rows j hj).1]; exact hi
  rw [eachS_at hl hi2]
  exact ans_cg h e _ _
theorem whole_acc {P Q : Int} (h : GrpP P Q) {bs : List (List Int)} {xs ys : List Int} {e : Int} (e0 : 0 ≤ e) (ho : ImgOk P Q (ones bs.length) bs xs) (hl : xs.length = ys.length) (hx : ∀ i, 0 ≤ xs.getD i 0) (hy : ∀ i, 0 ≤ ys.getD i 0) :
    AccP P Q (imageS P Q bs xs) bs (imageS P Q bs ys) e (eachS (ansF Q e) xs ys) := by
  have hc := claim_ok h ho hx
  refine ⟨⟨hc.1, by rw [eachS_len hl]; exact hc.2⟩, by rw [imageS_len, imageS_len], fun j hj => ?_⟩
  rw [imageS_len] at hj
  have ht : InP P Q ((imageS P Q bs xs).getD j 0) := hc.1.te.at (by rw [imageS_len]; exact hj)
  have hu : InP P Q ((imageS P Q bs ys).getD j 0) := by rw [imgAt hj]; exact img_el h (rowAll ho.1 hj) hy _ (Nat.le_refl _)
  have hz : InP P Q ((imageS P Q bs (eachS (ansF Q e) xs ys)).getD j 0) := by rw [imgAt hj]; exact img_el h (rowAll ho.1 hj) (eachS_nonneg hl (fun a b => (ansF_u _ _ a b).1)) _ (Nat.le_refl _)
  refine ⟨hu, cg_eq h (mul_lt h _ _).1 (mul_lt h _ _).2 (by have := hz.1; omega) hz.2.1 ((mul_cg h _ _).trans (Cg.trans ((Cg.refl _ _).mul (exp_cg h ht e0)) ?_))⟩
  rw [Nat.mul_comm]
  exact (img_ans h ho hl hx hy hj).symm
/-- what is faked of a real talk is its beginning -/
theorem fakes_eq {P Q : Int} (h : GrpP P Q) {bs : List (List Int)} {xs ys : List Int} {e : Int} (e0 : 0 ≤ e) (ho : ImgOk P Q (ones bs.length) bs xs) (hl : xs.length = ys.length) (hx : ∀ i, 0 ≤ xs.getD i 0) (hy : ∀ i, 0 ≤ ys.getD i 0) :
    ImgOk P Q (imageS P Q bs xs) bs (eachS (ansF Q e) xs ys) ∧ fakL P Q (imageS P Q bs xs) bs e (eachS (ansF Q e) xs ys) = imageS P Q bs ys := by
  have hc := claim_ok h ho hx
  have ho2 : ImgOk P Q (imageS P Q bs xs) bs (eachS (ansF Q e) xs ys) := ⟨hc.1, by rw [eachS_len hl]; exact hc.2⟩
  refine ⟨ho2, ?_⟩
  rw [fakL_yes ho2]
  have hl2 : (imageS P Q bs (eachS (ansF Q e) xs ys)).length = (imageS P Q bs xs).length := by rw [imageS_len, imageS_len]
  refine list_ext (by rw [eachS_len hl2, imageS_len, imageS_len]) (fun j hj => ?_)
  rw [eachS_len hl2] at hj
  rw [eachS_at hl2 hj]
  rw [imageS_len] at hj
  have ht : InP P Q ((imageS P Q bs xs).getD j 0) := hc.1.te.at (by rw [imageS_len]; exact hj)
  have hu : InP P Q ((imageS P Q bs ys).getD j 0) := by rw [imgAt hj]; exact img_el h (rowAll ho.1 hj) hy _ (Nat.le_refl _)
  refine over_eq h (exp_el h ht e0) (by have := hu.1; omega) hu.2.1 (Cg.trans ((Cg.refl _ _).mul (exp_cg h ht e0)) ?_)
  rw [Nat.mul_comm]
  exact (img_ans h ho hl hx hy hj).symm
theorem drw_back {P Q : Int} (h : GrpP P Q) (e x y : Int) : drwF Q e x (ansF Q e x y) = addI y 0 Q := by
  have h1 := (drw_cg h e x (ansF Q e x y)).trans (ans_cg h e x y)
  rw [Nat.add_comm (x.toNat * e.toNat) y.toNat] at h1
  have h2 := Cg.add_cancel h1
  have hm := q_mod h
  have l1 : (drwF Q e x (ansF Q e x y)).toNat < Q.toNat := by unfold drwF subI; rw [Int.toNat_natCast]; exact subS_lt hm
  unfold Cg at h2
  rw [Nat.mod_eq_of_lt l1] at h2
  have h3 : addI y 0 Q = ((y.toNat % Q.toNat : Nat) : Int) := by
    unfold addI; rw [addS_yes hm, show Int.toNat 0 = 0 from rfl, Nat.add_zero]
  have h4 := (drwF_u Q e x (ansF Q e x y)).1
  rw [h3]
  omega
end Go.Proofs.Ytlnkpbaibnfhhaa
