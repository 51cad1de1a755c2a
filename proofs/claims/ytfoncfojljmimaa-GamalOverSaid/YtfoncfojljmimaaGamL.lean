/- Layer 5's laws of elements: plain Lean, no program in it. -/
import Derived.Test.YtfoncfojljmimaaW5
set_option linter.unusedVariables false
set_option linter.unusedSimpArgs false
namespace Go.Proofs.Ytfoncfojljmimaa
open NT
theorem exp_add {P Q x : Int} (h : GrpP P Q) (hx : InP P Q x) {r s : Int} (r0 : 0 ≤ r) (s0 : 0 ≤ s) : Cg P.toNat (expI Q P x (r + s)).toNat ((expI Q P x r).toNat * (expI Q P x s).toNat) := by
  refine (exp_cg h hx (by omega)).trans (Cg.trans ?_ ((exp_cg h hx r0).mul (exp_cg h hx s0)).symm)
  rw [← Nat.pow_add, Int.toNat_add r0 s0]
  exact Cg.refl _ _
theorem exp_zero {P Q x : Int} (h : GrpP P Q) (hx : InP P Q x) : expI Q P x 0 = 1 := by
  have := h.q5; have := h.p
  refine cg_eq h (exp_lt h _ _).1 (exp_lt h _ _).2 (by omega) (by omega) ((exp_cg h hx (Int.le_refl 0)).trans ?_)
  exact Cg.refl _ _
theorem exp_q {P Q x : Int} (h : GrpP P Q) (hx : InP P Q x) : expI Q P x Q = 1 := by
  have := h.q5; have := h.p
  refine cg_eq h (exp_lt h _ _).1 (exp_lt h _ _).2 (by omega) (by omega) ((exp_cg h hx (by omega)).trans (el_pow h hx))
theorem prod_one_r {P Q : Int} (h : GrpP P Q) {b : Int} (b0 : 0 ≤ b) (b1 : b < P) : prodI P [b, 1] = b := by rw [prod_comm h, prod_one h b0 b1]
theorem again_u {P Q G cu r s : Int} (h : GrpP P Q) (hG : InP P Q G) (r0 : 0 ≤ r) (s0 : 0 ≤ s) : prodI P [expI Q P G s, prodI P [expI Q P G r, cu]] = prodI P [expI Q P G (r + s), cu] := by
  refine cg_eq h (prod_lt h _).1 (prod_lt h _).2 (prod_lt h _).1 (prod_lt h _).2 ?_
  refine (prod2_cg h _ _).trans (((Cg.refl _ _).mul (prod2_cg h _ _)).trans (Cg.trans ?_ ((exp_add h hG r0 s0).mul (Cg.refl _ cu.toNat)).symm |>.trans (prod2_cg h _ _).symm))
  rw [show (expI Q P G s).toNat * ((expI Q P G r).toNat * cu.toNat) = (expI Q P G r).toNat * (expI Q P G s).toNat * cu.toNat by ac_rfl]
  exact Cg.refl _ _
theorem again_v {P Q y cv r s : Int} (h : GrpP P Q) (hy : InP P Q y) (r0 : 0 ≤ r) (s0 : 0 ≤ s) : prodI P [prodI P [cv, expI Q P y r], expI Q P y s] = prodI P [cv, expI Q P y (r + s)] := by
  refine cg_eq h (prod_lt h _).1 (prod_lt h _).2 (prod_lt h _).1 (prod_lt h _).2 ?_
  refine (prod2_cg h _ _).trans (((prod2_cg h _ _).mul (Cg.refl _ _)).trans (Cg.trans ?_ ((Cg.refl _ cv.toNat).mul (exp_add h hy r0 s0)).symm |>.trans (prod2_cg h _ _).symm))
  rw [show cv.toNat * (expI Q P y r).toNat * (expI Q P y s).toNat = cv.toNat * ((expI Q P y r).toNat * (expI Q P y s).toNat) by ac_rfl]
  exact Cg.refl _ _
/-- a pair opened by one secret -/
noncomputable def openI (P Q x cu cv : Int) : Int := overI P cv (prodI P [expI Q P cu x])
theorem open_times {P Q x au av bu bv : Int} (h : GrpP P Q) (hau : InP P Q au) (hav : InP P Q av) (hbu : InP P Q bu) (hbv : InP P Q bv) (x0 : 0 ≤ x) :
    openI P Q x (prodI P [au, bu]) (prodI P [av, bv]) = prodI P [openI P Q x au av, openI P Q x bu bv] := by
  have hcu := prod2_el h hau hbu
  have e1 := exp_el h hau x0
  have e2 := exp_el h hbu x0
  have e3 := exp_el h hcu x0
  unfold openI
  refine over_eq h (prod1_el h e3) (prod_lt h _).1 (prod_lt h _).2 ?_
  have o1 := (over_cg h av (prod1_el h e1)).symm.trans ((Cg.refl _ _).mul (prod1_cg h _)) |>.symm
  have o2 := (over_cg h bv (prod1_el h e2)).symm.trans ((Cg.refl _ _).mul (prod1_cg h _)) |>.symm
  refine Cg.trans ?_ (prod2_cg h av bv).symm
  refine Cg.trans ?_ (o1.mul o2)
  have k : Cg P.toNat (expI Q P (prodI P [au, bu]) x).toNat ((expI Q P au x).toNat * (expI Q P bu x).toNat) := by
    refine (exp_cg h hcu x0).trans (((prod2_cg h au bu).pow x.toNat).trans ?_)
    rw [Nat.mul_pow]
    exact ((exp_cg h hau x0).symm.mul (exp_cg h hbu x0).symm)
  refine ((prod2_cg h _ _).mul ((prod1_cg h _).trans k)).trans ?_
  rw [show (overI P av (prodI P [expI Q P au x])).toNat * (overI P bv (prodI P [expI Q P bu x])).toNat * ((expI Q P au x).toNat * (expI Q P bu x).toNat) = (overI P av (prodI P [expI Q P au x])).toNat * (expI Q P au x).toNat * ((overI P bv (prodI P [expI Q P bu x])).toNat * (expI Q P bu x).toNat) by ac_rfl]
  exact Cg.refl _ _
/-- crossed the one way and the other -/
theorem cross_eq {P Q tu tv x ey : Int} (h : GrpP P Q) (hu : InP P Q tu) (x0 : 0 ≤ x) (he : 0 ≤ ey) : overI P (prodI P [tv, ey]) (expI Q P tu x) = prodI P [overI P tv (expI Q P tu x), ey] := by
  have e1 := exp_el h hu x0
  refine over_eq h e1 (prod_lt h _).1 (prod_lt h _).2 ?_
  refine ((prod2_cg h _ _).mul (Cg.refl _ _)).trans (Cg.trans ?_ (prod2_cg h tv ey).symm)
  rw [show (overI P tv (expI Q P tu x)).toNat * ey.toNat * (expI Q P tu x).toNat = (overI P tv (expI Q P tu x)).toNat * (expI Q P tu x).toNat * ey.toNat by ac_rfl]
  exact (over_cg h tv e1).mul (Cg.refl _ _)
end Go.Proofs.Ytfoncfojljmimaa
