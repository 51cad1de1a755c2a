/- What several draws and several secrets make of an element: plain Lean, no program in it. -/
import Derived.Test.YtfoncfojljmimaaGamL
set_option linter.unusedVariables false
set_option linter.unusedSimpArgs false
namespace Go.Proofs.Ytfoncfojljmimaa
open NT
/-- a pair that is m sealed for y by draws whose sum is s -/
structure SealedP (P Q G y m cu cv : Int) (s : Nat) : Prop where
  u : InP P Q cu
  v : InP P Q cv
  eu : Cg P.toNat cu.toNat (G.toNat ^ s)
  ev : Cg P.toNat cv.toNat (m.toNat * y.toNat ^ s)
theorem SealedP.first {P Q G y m r : Int} (h : GrpP P Q) (hG : InP P Q G) (hy : InP P Q y) (hm : InP P Q m) (r0 : 0 ≤ r) : SealedP P Q G y m (expI Q P G r) (prodI P [m, expI Q P y r]) r.toNat :=
  ⟨exp_el h hG r0, prod2_el h hm (exp_el h hy r0), exp_cg h hG r0, (prod2_cg h _ _).trans ((Cg.refl _ _).mul (exp_cg h hy r0))⟩
theorem SealedP.again {P Q G y m cu cv r : Int} {s : Nat} (h : GrpP P Q) (hG : InP P Q G) (hy : InP P Q y) (k : SealedP P Q G y m cu cv s) (r0 : 0 ≤ r) : SealedP P Q G y m (prodI P [expI Q P G r, cu]) (prodI P [cv, expI Q P y r]) (s + r.toNat) := by
  refine ⟨prod2_el h (exp_el h hG r0) k.u, prod2_el h k.v (exp_el h hy r0), ?_, ?_⟩
  · refine (prod2_cg h _ _).trans (((exp_cg h hG r0).mul k.eu).trans ?_)
    rw [← Nat.pow_add, Nat.add_comm]; exact Cg.refl _ _
  · refine (prod2_cg h _ _).trans ((k.ev.mul (exp_cg h hy r0)).trans ?_)
    rw [Nat.mul_assoc, ← Nat.pow_add]; exact Cg.refl _ _
/-- the parts that several secrets have of an element -/
noncomputable def partsI (P Q g : Int) (xs : List Int) : List Int := xs.map (expI Q P g)
theorem partsI_snoc (P Q g : Int) (xs : List Int) (x : Int) : partsI P Q g (xs ++ [x]) = partsI P Q g xs ++ [expI Q P g x] := by unfold partsI; simp
theorem partsI_len (P Q g : Int) (xs : List Int) : (partsI P Q g xs).length = xs.length := by unfold partsI; simp
theorem partsI_el {P Q g : Int} {xs : List Int} (h : GrpP P Q) (hg : InP P Q g) (hx : ∀ x ∈ xs, 0 ≤ x) : ∀ z ∈ partsI P Q g xs, InP P Q z := by
  intro z hz
  obtain ⟨x, hm, rfl⟩ := List.mem_map.1 hz
  exact exp_el h hg (hx x hm)
theorem partsI_u {P Q g : Int} {xs : List Int} : ∀ z ∈ partsI P Q g xs, 0 ≤ z ∧ z < 18446744073709551616 := by
  intro z hz
  obtain ⟨x, hm, rfl⟩ := List.mem_map.1 hz
  exact expI_u _ _ _ _
theorem parts_pow {P Q G cu : Int} {s : Nat} (h : GrpP P Q) (hG : InP P Q G) (hu : InP P Q cu) (e : Cg P.toNat cu.toNat (G.toNat ^ s)) : ∀ (xs : List Int), (∀ x ∈ xs, 0 ≤ x) →
    Cg P.toNat (prodN (partsI P Q cu xs)) ((prodN (partsI P Q G xs)) ^ s) := by
  intro xs
  induction xs with
  | nil => intro _; simp only [partsI, List.map_nil, prodN, Nat.one_pow]; exact Cg.refl _ _
  | cons x l ih =>
    intro hx
    have h0 := hx x (by simp)
    have hl := ih (fun z hz => hx z (List.mem_cons_of_mem _ hz))
    simp only [partsI, List.map_cons, prodN] at hl ⊢
    rw [Nat.mul_pow]
    refine Cg.mul ?_ hl
    refine (exp_cg h hu h0).trans ((e.pow x.toNat).trans ?_)
    rw [← Nat.pow_mul, Nat.mul_comm, Nat.pow_mul]
    exact ((exp_cg h hG h0).pow s).symm
theorem parts_join {P Q G cu : Int} {s : Nat} (h : GrpP P Q) (hG : InP P Q G) (hu : InP P Q cu) (e : Cg P.toNat cu.toNat (G.toNat ^ s)) {xs : List Int} (hx : ∀ x ∈ xs, 0 ≤ x) :
    Cg P.toNat (prodI P (partsI P Q cu xs)).toNat ((prodI P (partsI P Q G xs)).toNat ^ s) :=
  (prod_cg h _).trans ((parts_pow h hG hu e xs hx).trans ((prod_cg h _).pow s).symm)
/-- what is sealed for joined keys is opened by all shares -/
theorem sealed_open {P Q G m cu cv : Int} {s : Nat} {xs : List Int} (h : GrpP P Q) (hG : InP P Q G) (hm : InP P Q m) (hx : ∀ x ∈ xs, 0 ≤ x)
    (k : SealedP P Q G (prodI P (partsI P Q G xs)) m cu cv s) : overI P cv (prodI P (partsI P Q cu xs)) = m := by
  refine over_eq h (prod_el h (partsI_el h k.u hx)) (by have := hm.1; omega) hm.2.1 ?_
  exact ((Cg.refl _ m.toNat).mul (parts_join h hG k.u k.eu hx)).trans k.ev.symm
/-- a three on its way: W is K's other half by draws whose sum is d; V times what was taken off is m, sealed, by d besides -/
structure CrossP (P Q G K y m tu w v : Int) (r : Nat) (xs : List Int) (d : Nat) : Prop where
  iw : InP P Q w
  iv : InP P Q v
  ew : Cg P.toNat w.toNat (G.toNat ^ d)
  ev : Cg P.toNat (v.toNat * prodN (partsI P Q tu xs)) (m.toNat * y.toNat ^ r * K.toNat ^ d)
theorem CrossP.first {P Q G K y m r : Int} (h : GrpP P Q) (hG : InP P Q G) (hy : InP P Q y) (hm : InP P Q m) (r0 : 0 ≤ r) : CrossP P Q G K y m (expI Q P G r) 1 (prodI P [m, expI Q P y r]) r.toNat [] 0 := by
  refine ⟨one_el h, prod2_el h hm (exp_el h hy r0), Cg.refl _ _, ?_⟩
  simp only [partsI, List.map_nil, prodN, Nat.mul_one, Nat.pow_zero]
  exact (prod2_cg h _ _).trans ((Cg.refl _ _).mul (exp_cg h hy r0))
theorem prodN_parts_snoc (P Q g : Int) (xs : List Int) (x : Int) : prodN (partsI P Q g (xs ++ [x])) = prodN (partsI P Q g xs) * (expI Q P g x).toNat := by rw [partsI_snoc, prodN_snoc]
theorem CrossP.step {P Q G K y m tu w v s e : Int} {r d : Nat} {xs : List Int} (h : GrpP P Q) (hG : InP P Q G) (hK : InP P Q K) (hu : InP P Q tu) (k : CrossP P Q G K y m tu w v r xs d) (s0 : 0 ≤ s) (e0 : 0 ≤ e) :
    CrossP P Q G K y m tu (prodI P [expI Q P G e, w]) (overI P (prodI P [v, expI Q P K e]) (expI Q P tu s)) r (xs ++ [s]) (d + e.toNat) := by
  have hs := exp_el h hu s0
  have hv := prod2_el h k.iv (exp_el h hK e0)
  refine ⟨prod2_el h (exp_el h hG e0) k.iw, over_el h hv hs, ?_, ?_⟩
  · refine (prod2_cg h _ _).trans (((exp_cg h hG e0).mul k.ew).trans ?_)
    rw [← Nat.pow_add, Nat.add_comm]; exact Cg.refl _ _
  · rw [prodN_parts_snoc]
    have o := over_cg h (prodI P [v, expI Q P K e]) hs
    rw [show (overI P (prodI P [v, expI Q P K e]) (expI Q P tu s)).toNat * (prodN (partsI P Q tu xs) * (expI Q P tu s).toNat) = (overI P (prodI P [v, expI Q P K e]) (expI Q P tu s)).toNat * (expI Q P tu s).toNat * prodN (partsI P Q tu xs) by ac_rfl]
    refine (o.mul (Cg.refl _ _)).trans (((prod2_cg h _ _).mul (Cg.refl _ _)).trans ?_)
    rw [show v.toNat * (expI Q P K e).toNat * prodN (partsI P Q tu xs) = v.toNat * prodN (partsI P Q tu xs) * (expI Q P K e).toNat by ac_rfl]
    refine (k.ev.mul (exp_cg h hK e0)).trans ?_
    rw [Nat.mul_assoc, ← Nat.pow_add]; exact Cg.refl _ _
/-- what is crossed by all secrets is opened by the other key's -/
theorem crossed_open {P Q G m x r0 w v : Int} {d : Nat} {xs : List Int} (h : GrpP P Q) (hG : InP P Q G) (hm : InP P Q m) (hx : ∀ x ∈ xs, 0 ≤ x) (x0 : 0 ≤ x) (r00 : 0 ≤ r0)
    (k : CrossP P Q G (expI Q P G x) (prodI P (partsI P Q G xs)) m (expI Q P G r0) w v r0.toNat xs d) : overI P v (prodI P [expI Q P w x]) = m := by
  have hy := prod_el h (partsI_el h hG hx)
  have hu := exp_el h hG r00
  have hw := exp_el h k.iw x0
  refine over_eq h (prod1_el h hw) (by have := hm.1; omega) hm.2.1 ?_
  have e1 : Cg P.toNat (prodN (partsI P Q (expI Q P G r0) xs)) ((prodI P (partsI P Q G xs)).toNat ^ r0.toNat) := (prod_cg h _).symm.trans (parts_join h hG hu (exp_cg h hG r00) hx)
  have e2 : Cg P.toNat (v.toNat * (prodI P (partsI P Q G xs)).toNat ^ r0.toNat) (m.toNat * (expI Q P G x).toNat ^ d * (prodI P (partsI P Q G xs)).toNat ^ r0.toNat) := by
    refine (((Cg.refl _ v.toNat).mul e1).symm.trans k.ev).trans ?_
    rw [Nat.mul_assoc, Nat.mul_comm ((prodI P (partsI P Q G xs)).toNat ^ r0.toNat), ← Nat.mul_assoc]; exact Cg.refl _ _
  have e3 : Cg P.toNat v.toNat (m.toNat * (expI Q P G x).toNat ^ d) := by
    have hyr := exp_el h hy r00
    refine el_cancel h hyr ?_
    exact ((Cg.refl _ _).mul (exp_cg h hy r00)).trans (e2.trans ((Cg.refl _ _).mul (exp_cg h hy r00).symm))
  refine Cg.trans ((Cg.refl _ m.toNat).mul ((prod1_cg h _).trans ((exp_cg h k.iw x0).trans (k.ew.pow x.toNat)))) (Cg.trans ?_ e3.symm)
  refine (Cg.refl _ m.toNat).mul ?_
  rw [← Nat.pow_mul, Nat.mul_comm, Nat.pow_mul]
  exact ((exp_cg h hG x0).pow d).symm
end Go.Proofs.Ytfoncfojljmimaa
