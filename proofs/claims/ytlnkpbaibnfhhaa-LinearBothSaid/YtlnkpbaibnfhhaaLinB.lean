/- Layer 6: two answers by the same draws: plain Lean, no program in it. -/
import Derived.Test.YtlnkpbaibnfhhaaLinQ
set_option linter.unusedVariables false
set_option linter.unusedSimpArgs false
set_option pp.deepTerms true
set_option pp.maxSteps 1000000
namespace Go.Proofs.Ytlnkpbaibnfhhaa
open Go.RowKit NT
theorem mod_toNat {t Q : Int} (t0 : 0 ≤ t) (q0 : 0 ≤ Q) : (t % Q).toNat = t.toNat % Q.toNat := by
  obtain ⟨a, rfl⟩ := Int.eq_ofNat_of_zero_le t0
  obtain ⟨b, rfl⟩ := Int.eq_ofNat_of_zero_le q0
  simp only [Int.ofNat_eq_natCast, Int.toNat_natCast]
  rw [← Int.natCast_emod, Int.toNat_natCast]
theorem both_at {P Q : Int} (h : GrpP P Q) {e f t z : Int} (hd : HasInv (subI e f Q).toNat Q.toNat) (t0 : 0 ≤ t) : extF Q (invI (subI e f Q) Q) (ansF Q e t z) (ansF Q f t z) = t % Q := by
  have hm := q_mod h
  have h1 := ext_cg (x := ansF Q e t z) (y := ansF Q f t z) h hd
  obtain ⟨E, eE⟩ : ∃ E, extF Q (invI (subI e f Q) Q) (ansF Q e t z) (ansF Q f t z) = E := ⟨_, rfl⟩
  have e0 : 0 ≤ E ∧ E.toNat < Q.toNat := by
    rw [← eE]
    refine ⟨(extF_u _ _ _ _).1, ?_⟩
    unfold extF mulI
    rw [mulS_yes hm, Int.toNat_natCast]
    exact Nat.mod_lt _ (by have := hm.1; omega)
  rw [eE] at h1 ⊢
  obtain ⟨d, ed⟩ : ∃ d, (subI e f Q).toNat = d := ⟨_, rfl⟩
  have h2 := sub_cg h e f
  have hone := (invS_spec hd).2
  rw [ed] at h1 h2 hone
  have h3 : Cg Q.toNat (E.toNat * d + (t.toNat * f.toNat + z.toNat)) (t.toNat * d + (t.toNat * f.toNat + z.toNat)) := by
    refine ((Cg.refl _ _).add (ans_cg h f t z).symm).trans (h1.trans ((ans_cg h e t z).trans ?_))
    have k := ((Cg.refl Q.toNat t.toNat).mul h2.symm).add (Cg.refl Q.toNat z.toNat)
    rw [show t.toNat * (d + f.toNat) + z.toNat = t.toNat * d + (t.toNat * f.toNat + z.toNat) by rw [Nat.mul_add, Nat.add_assoc]] at k
    exact k
  have h4 := (Cg.add_cancel h3).mul (Cg.refl Q.toNat (invS d Q.toNat))
  rw [Nat.mul_assoc, Nat.mul_assoc] at h4
  have hone2 : Cg Q.toNat (d * invS d Q.toNat) 1 := by rw [Nat.mul_comm]; exact hone
  have h5 := ((Cg.refl Q.toNat E.toNat).mul hone2).symm.trans (h4.trans ((Cg.refl Q.toNat t.toNat).mul hone2))
  rw [Nat.mul_one, Nat.mul_one] at h5
  unfold Cg at h5
  rw [Nat.mod_eq_of_lt e0.2] at h5
  have q5 := h.q5
  have h6 := mod_toNat (t := t) (Q := Q) t0 (by omega)
  have h7 := Int.emod_nonneg t (show Q ≠ 0 by omega)
  omega
/-- the exponents, each modulo Q -/
def modL (Q : Int) (ts : List Int) : List Int := ts.map (· % Q)
theorem modL_len (Q : Int) (ts : List Int) : (modL Q ts).length = ts.length := by unfold modL; simp
theorem modL_at (Q : Int) (ts : List Int) (i : Nat) : (modL Q ts).getD i 0 = ts.getD i 0 % Q := by
  unfold modL
  by_cases hi : i < ts.length
  · simp [List.getD, List.getElem?_eq_getElem, hi]
  · simp [List.getD, List.getElem?_eq_none (show ts.length ≤ i by omega)]
theorem both_ext {P Q : Int} (h : GrpP P Q) {g : Nat} (hr : Root Q.toNat g) {e f : Int} {xs ys : List Int} (hl : xs.length = ys.length) (hx : ∀ i, 0 ≤ xs.getD i 0) (hne : e.toNat % Q.toNat ≠ f.toNat % Q.toNat) :
    extB Q e f (eachS (ansF Q e) xs ys) (eachS (ansF Q f) xs ys) = true ∧ extL Q e f (eachS (ansF Q e) xs ys) (eachS (ansF Q f) xs ys) = modL Q xs := by
  have hd := has_inv h hr hne
  have hB : hasB (subI e f Q).toNat Q.toNat = true := hasB_yes hd
  have hl2 : (eachS (ansF Q e) xs ys).length = (eachS (ansF Q f) xs ys).length := by rw [eachS_len hl, eachS_len hl]
  refine ⟨by unfold extB; rw [hB, lenB_yes hl2]; rfl, ?_⟩
  unfold extL
  rw [if_pos hB]
  refine list_ext (by rw [eachS_len hl2, eachS_len hl, modL_len]) (fun i hi => ?_)
  rw [eachS_len hl2] at hi
  have hi2 : i < xs.length := by rw [eachS_len hl] at hi; exact hi
  rw [eachS_at hl2 hi, eachS_at hl hi2, eachS_at hl hi2, both_at h hd (hx i), modL_at]
theorem img_mod {P Q : Int} {row ws : List Int} (hw : ∀ i, 0 ≤ ws.getD i 0) : ∀ k, imgUp P Q row (modL Q ws) k = imgUp P Q row ws k := by
  intro k
  induction k with
  | zero => rfl
  | succ k ih =>
    simp only [imgUp]
    rw [ih, modL_at]
    unfold expI
    rw [Int.emod_emod_of_dvd _ (Int.dvd_refl Q)]
theorem image_mod {P Q : Int} {bs : List (List Int)} {ws : List Int} (hw : ∀ i, 0 ≤ ws.getD i 0) : imageS P Q bs (modL Q ws) = imageS P Q bs ws := by
  refine list_ext (by rw [imageS_len, imageS_len]) (fun j hj => ?_)
  rw [imageS_len] at hj
  rw [imgAt hj, imgAt hj, img_mod hw]
theorem both_holds {P Q : Int} (h : GrpP P Q) {bs : List (List Int)} {ws : List Int} (ho : ImgOk P Q (ones bs.length) bs ws) (hw : ∀ i, 0 ≤ ws.getD i 0) : holdsB6 P Q (imageS P Q bs ws) bs (modL Q ws) = true :=
  holdsB6_iff ⟨(claim_ok h ho hw).1, by rw [modL_len]; exact ho.2⟩ (image_mod hw)
end Go.Proofs.Ytlnkpbaibnfhhaa
