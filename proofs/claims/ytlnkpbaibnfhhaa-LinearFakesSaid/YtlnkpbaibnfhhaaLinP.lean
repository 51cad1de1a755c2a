/- Layer 6's laws of exponents: plain Lean, no program in it. -/
import Derived.Test.YtlnkpbaibnfhhaaLinAcc
import Derived.Test.YtlnkpbaibnfhhaaLinSame
set_option linter.unusedVariables false
set_option linter.unusedSimpArgs false
namespace Go.Proofs.Ytlnkpbaibnfhhaa
open Go.RowKit NT
theorem q_mod {P Q : Int} (h : GrpP P Q) : Modulus Q.toNat := by have := h.q5; have := h.q1; exact ⟨by omega, by omega⟩
theorem pow_cgq {P Q x : Int} (h : GrpP P Q) (hx : InP P Q x) {a b : Nat} (e : Cg Q.toNat a b) : Cg P.toNat (x.toNat ^ a) (x.toNat ^ b) :=
  (pow_red h hx a).symm.trans (by rw [show a % Q.toNat = b % Q.toNat from e]; exact pow_red h hx b)
theorem img_el {P Q : Int} (h : GrpP P Q) {row ws : List Int} (hr : AllE P Q row) (hw : ∀ i, 0 ≤ ws.getD i 0) : ∀ k, k ≤ row.length → InP P Q (imgUp P Q row ws k) := by
  intro k
  induction k with
  | zero => intro _; exact one_el h
  | succ k ih => intro hk; exact mul_el h (ih (by omega)) (exp_el h (hr.at (by omega)) (hw k))
theorem img_lin {P Q : Int} (h : GrpP P Q) {row u v y : List Int} {D : Nat} (hr : AllE P Q row) (hu : ∀ i, 0 ≤ u.getD i 0) (hv : ∀ i, 0 ≤ v.getD i 0) (hy : ∀ i, 0 ≤ y.getD i 0) :
    ∀ k, k ≤ row.length → (∀ i, i < k → Cg Q.toNat (u.getD i 0).toNat ((v.getD i 0).toNat * D + (y.getD i 0).toNat)) → Cg P.toNat (imgUp P Q row u k).toNat ((imgUp P Q row v k).toNat ^ D * (imgUp P Q row y k).toNat) := by
  intro k
  induction k with
  | zero => intro _ _; simp only [imgUp, show Int.toNat 1 = 1 from rfl, Nat.one_pow, Nat.mul_one]; exact Cg.refl _ _
  | succ k ih =>
    intro hk H
    have hb := hr.at (show k < row.length by omega)
    have h1 := ih (by omega) (fun i hi => H i (by omega))
    have h2 := pow_cgq h hb (H k (by omega))
    rw [Nat.pow_add, Nat.pow_mul] at h2
    simp only [imgUp]
    refine (mul_cg h _ _).trans ((h1.mul ((exp_cg h hb (hu k)).trans h2)).trans ?_)
    refine Cg.trans ?_ (((mul_cg h _ _).pow D).mul (mul_cg h _ _)).symm
    rw [Nat.mul_pow]
    refine Cg.trans ?_ (((Cg.refl _ _).mul ((exp_cg h hb (hv k)).pow D)).mul ((Cg.refl _ _).mul (exp_cg h hb (hy k)))).symm
    rw [show (imgUp P Q row v k).toNat ^ D * (imgUp P Q row y k).toNat * (((row.getD k 0).toNat ^ (v.getD k 0).toNat) ^ D * (row.getD k 0).toNat ^ (y.getD k 0).toNat) = (imgUp P Q row v k).toNat ^ D * ((row.getD k 0).toNat ^ (v.getD k 0).toNat) ^ D * ((imgUp P Q row y k).toNat * (row.getD k 0).toNat ^ (y.getD k 0).toNat) by ac_rfl]
    exact Cg.refl _ _
theorem ans_cg {P Q : Int} (h : GrpP P Q) (e x y : Int) : Cg Q.toNat (ansF Q e x y).toNat (x.toNat * e.toNat + y.toNat) := by
  unfold ansF addI mulI
  rw [addS_yes (q_mod h), mulS_yes (q_mod h), Int.toNat_natCast, Int.toNat_natCast]
  refine (Cg.mod _ _).trans (((Cg.mod _ _).add (Cg.refl _ _)).trans ?_)
  rw [Nat.mul_comm]; exact Cg.refl _ _
theorem drw_cg {P Q : Int} (h : GrpP P Q) (e x y : Int) : Cg Q.toNat ((drwF Q e x y).toNat + x.toNat * e.toNat) y.toNat := by
  unfold drwF subI mulI
  rw [mulS_yes (q_mod h), Int.toNat_natCast, Int.toNat_natCast]
  refine Cg.trans ((Cg.refl _ _).add ?_) (subS_back (t := e.toNat * x.toNat % Q.toNat) (q_mod h))
  rw [Nat.mul_comm]; exact (Cg.mod _ _).symm
theorem sub_cg {P Q : Int} (h : GrpP P Q) (e f : Int) : Cg Q.toNat ((subI e f Q).toNat + f.toNat) e.toNat := by
  unfold subI; rw [Int.toNat_natCast]; exact subS_back (q_mod h)
theorem ext_cg {P Q : Int} (h : GrpP P Q) {d x y : Int} (hd : HasInv d.toNat Q.toNat) : Cg Q.toNat ((extF Q (invI d Q) x y).toNat * d.toNat + y.toNat) x.toNat := by
  have h1 := (invS_spec hd).2
  refine Cg.trans (Cg.add ?_ (Cg.refl _ _)) (sub_cg h x y)
  unfold extF mulI
  rw [mulS_yes (q_mod h), Int.toNat_natCast]
  refine ((Cg.mod _ _).mul (Cg.refl _ _)).trans ?_
  rw [Nat.mul_assoc]
  unfold invI
  rw [Int.toNat_natCast]
  have := (Cg.refl Q.toNat (subI x y Q).toNat).mul h1
  rwa [Nat.mul_one] at this
theorem has_inv {P Q e f : Int} (h : GrpP P Q) {g : Nat} (hr : Root Q.toNat g) (hne : e.toNat % Q.toNat ≠ f.toNat % Q.toNat) : HasInv (subI e f Q).toNat Q.toNat := by
  have h0 : (subI e f Q).toNat % Q.toNat ≠ 0 := by
    intro h0
    apply hne
    have h1 := sub_cg h e f
    unfold Cg at h1
    rw [Nat.add_mod, h0, Nat.zero_add, Nat.mod_mod] at h1
    exact h1.symm
  obtain ⟨k, hk, hc⟩ := hr.all _ h0
  have hm := q_mod h
  refine ⟨hm, g ^ (Q.toNat - 1 - k) % Q.toNat, Nat.mod_lt _ (by have := hm.1; omega), ?_⟩
  exact ((Cg.mod _ _).mul hc.symm).trans (hr.inv (by omega))
theorem eachS_nonneg {f : Int → Int → Int} {xs ys : List Int} (hl : xs.length = ys.length) (hf : ∀ a b, 0 ≤ f a b) : ∀ i, 0 ≤ (eachS f xs ys).getD i 0 := by
  intro i
  by_cases hi : i < xs.length
  · rw [eachS_at hl hi]; exact hf _ _
  · rw [show (eachS f xs ys).getD i 0 = 0 by simp [List.getD, List.getElem?_eq_none (show (eachS f xs ys).length ≤ i by rw [eachS_len hl]; omega)]]
    exact Int.le_refl 0
theorem rowAll {P Q : Int} {ts : List Int} {bs : List (List Int)} (h : ClaimOk P Q ts bs) {j : Nat} (hj : j < bs.length) : AllE P Q (bs.getD j []) := (h.rows j hj).2
/-- the image of row j, modulo P -/
theorem imgAt {P Q : Int} {bs : List (List Int)} {ws : List Int} {j : Nat} (hj : j < bs.length) : (imageS P Q bs ws).getD j 0 = imgUp P Q (bs.getD j []) ws (bs.getD j []).length := imageS_at hj
theorem fake_acc {P Q : Int} (h : GrpP P Q) {ts : List Int} {bs : List (List Int)} {e : Int} {z : List Int} (ho : ImgOk P Q ts bs z) (e0 : 0 ≤ e) (hz : ∀ i, 0 ≤ z.getD i 0) : AccP P Q ts bs (fakL P Q ts bs e z) e z := by
  have hl : (imageS P Q bs z).length = ts.length := by rw [imageS_len, ho.1.b]
  rw [fakL_yes ho]
  refine ⟨ho, by rw [eachS_len hl, hl], fun j hj => ?_⟩
  rw [eachS_len hl] at hj
  have hjb : j < bs.length := by rw [imageS_len] at hj; exact hj
  have ht : InP P Q (ts.getD j 0) := ho.1.te.at (by omega)
  have hi : InP P Q ((imageS P Q bs z).getD j 0) := by rw [imgAt hjb]; exact img_el h (rowAll ho.1 hjb) hz _ (Nat.le_refl _)
  have hx := exp_el h ht e0
  unfold AccAt
  rw [eachS_at hl hj]
  refine ⟨over_el h hi hx, ?_⟩
  exact cg_eq h (mul_lt h _ _).1 (mul_lt h _ _).2 (by have := hi.1; omega) hi.2.1 ((mul_cg h _ _).trans (over_cg h _ hx))
theorem ext_holds {P Q : Int} (h : GrpP P Q) {g : Nat} (hr : Root Q.toNat g) {ts : List Int} {bs : List (List Int)} {e f : Int} {us z y : List Int} (e0 : 0 ≤ e) (f0 : 0 ≤ f) (hz : ∀ i, 0 ≤ z.getD i 0) (hy : ∀ i, 0 ≤ y.getD i 0)
    (a1 : AccP P Q ts bs us e z) (a2 : AccP P Q ts bs us f y) (hne : e.toNat % Q.toNat ≠ f.toNat % Q.toNat) : extB Q e f z y = true ∧ holdsB6 P Q ts bs (extL Q e f z y) = true := by
  have hd := has_inv h hr hne
  have hl : z.length = y.length := by rw [a1.1.2, a2.1.2]
  have hB : hasB (subI e f Q).toNat Q.toNat = true := hasB_yes hd
  refine ⟨by unfold extB; rw [hB, lenB_yes hl]; rfl, ?_⟩
  have hc := a1.1.1
  unfold extL
  rw [if_pos hB]
  have hw := eachS_nonneg (f := extF Q (invI (subI e f Q) Q)) hl (fun a b => (extF_u _ _ a b).1)
  refine holdsB6_iff ⟨hc, by rw [eachS_len hl]; exact a1.1.2⟩ ?_
  refine list_ext (by rw [imageS_len, hc.b]) (fun j hj => ?_)
  rw [imageS_len] at hj
  have hjt : j < ts.length := by rw [← hc.b]; exact hj
  have hju : j < us.length := by rw [a1.2.1]; exact hjt
  have hrow := rowAll hc hj
  have ht := hc.te.at hjt
  obtain ⟨u1, q1⟩ := a1.2.2 j hju
  obtain ⟨u2, q2⟩ := a2.2.2 j hju
  rw [imgAt hj] at q1 q2 ⊢
  have hlin := img_lin (D := (subI e f Q).toNat) h hrow hz hw hy (bs.getD j []).length (Nat.le_refl _) (fun i hi => by
    have hi2 : i < z.length := by rw [a1.1.2, ← (hc.rows j hj).1]; exact hi
    rw [eachS_at hl hi2]
    exact (ext_cg h hd).symm)
  have hwel := img_el h hrow hw (bs.getD j []).length (Nat.le_refl _)
  obtain ⟨W, eW⟩ : ∃ W, imgUp P Q (bs.getD j []) (eachS (extF Q (invI (subI e f Q) Q)) z y) (bs.getD j []).length = W := ⟨_, rfl⟩
  rw [eW] at hlin hwel ⊢
  rw [← q1, ← q2] at hlin
  obtain ⟨t, et⟩ : ∃ t, ts.getD j 0 = t := ⟨_, rfl⟩
  rw [et] at hlin ht ⊢
  obtain ⟨x, ex⟩ : ∃ x, us.getD j 0 = x := ⟨_, rfl⟩
  rw [ex] at hlin u1
  have hd0 : 0 ≤ subI e f Q := (subI_u _ _ _).1
  have k1 : Cg P.toNat (expI Q P t e).toNat (t.toNat ^ (subI e f Q).toNat * (expI Q P t f).toNat) := by
    refine (exp_cg h ht e0).trans ((pow_cgq h ht (sub_cg h e f)).symm.trans ?_)
    rw [Nat.pow_add]
    exact (Cg.refl _ _).mul (exp_cg h ht f0).symm
  have k2 : Cg P.toNat (t.toNat ^ (subI e f Q).toNat * (expI Q P t f).toNat * x.toNat) (W.toNat ^ (subI e f Q).toNat * (expI Q P t f).toNat * x.toNat) := by
    have m1 := (mul_cg h x (expI Q P t e)).symm.trans (hlin.trans ((Cg.refl _ _).mul (mul_cg h x (expI Q P t f))))
    have m2 := ((Cg.refl P.toNat x.toNat).mul k1).symm.trans m1
    rw [show t.toNat ^ (subI e f Q).toNat * (expI Q P t f).toNat * x.toNat = x.toNat * (t.toNat ^ (subI e f Q).toNat * (expI Q P t f).toNat) by ac_rfl]
    rw [show W.toNat ^ (subI e f Q).toNat * (expI Q P t f).toNat * x.toNat = W.toNat ^ (subI e f Q).toNat * (x.toNat * (expI Q P t f).toNat) by ac_rfl]
    exact m2
  have k3 := el_cancel h (exp_el h ht f0) (el_cancel h u1 k2)
  have k4 := k3.pow (invI (subI e f Q) Q).toNat
  rw [← Nat.pow_mul, ← Nat.pow_mul] at k4
  have hone : Cg Q.toNat ((subI e f Q).toNat * (invI (subI e f Q) Q).toNat) 1 := by
    unfold invI; rw [Int.toNat_natCast, Nat.mul_comm]; exact (invS_spec hd).2
  have k5 := (pow_cgq h ht hone).symm.trans (k4.trans (pow_cgq h hwel hone))
  rw [Nat.pow_one, Nat.pow_one] at k5
  exact cg_eq h (by have := hwel.1; omega) hwel.2.1 (by have := ht.1; omega) ht.2.1 k5.symm
end Go.Proofs.Ytlnkpbaibnfhhaa
