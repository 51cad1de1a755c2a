/- Elements of a group and what is made of them, counted modulo P: plain Lean, no program in it. -/
import Derived.Test.YtfoncfojljmimaaGrpS
import Derived.Test.YtfoncfojljmimaaPrimeN
set_option linter.unusedVariables false
set_option linter.unusedSimpArgs false
namespace Go.Proofs.Ytfoncfojljmimaa
open NT
structure GrpP (P Q : Int) : Prop where
  q5 : 5 ≤ Q
  q1 : Q < 2305843009213693952
  p : P = 2 * Q + 1
theorem RightP.grp {P Q G H : Int} {rs : List RowD} (h : RightP P Q G H rs) : GrpP P Q := ⟨h.1, h.2.1, h.2.2.1⟩
theorem RightP.g {P Q G H : Int} {rs : List RowD} (h : RightP P Q G H rs) : InP P Q G := h.2.2.2.2.2.1
theorem RightP.h {P Q G H : Int} {rs : List RowD} (h : RightP P Q G H rs) : InP P Q H := h.2.2.2.2.2.2.1
theorem GrpP.mod {P Q : Int} (h : GrpP P Q) : Modulus P.toNat := by have := h.q5; have := h.q1; have := h.p; exact ⟨by omega, by omega⟩
theorem cg_eq {P Q : Int} (h : GrpP P Q) {a b : Int} (a0 : 0 ≤ a) (a1 : a < P) (b0 : 0 ≤ b) (b1 : b < P) (e : Cg P.toNat a.toNat b.toNat) : a = b := by
  have := e.eq (by omega) (by omega); omega
theorem mul_cg {P Q : Int} (h : GrpP P Q) (a b : Int) : Cg P.toNat (mulI a b P).toNat (a.toNat * b.toNat) := by
  unfold mulI; rw [mulS_yes h.mod, Int.toNat_natCast]; exact Cg.mod _ _
theorem mul_lt {P Q : Int} (h : GrpP P Q) (a b : Int) : 0 ≤ mulI a b P ∧ mulI a b P < P := by
  have h1 := h.mod
  unfold mulI; rw [mulS_yes h1]
  have := Nat.mod_lt (a.toNat * b.toNat) (show P.toNat > 0 by have := h1.1; omega)
  omega
theorem el_pow {P Q : Int} (h : GrpP P Q) {x : Int} (hx : InP P Q x) : Cg P.toNat (x.toNat ^ Q.toNat) 1 := by
  have h1 := hx.2.2
  have hm := h.mod
  unfold powI at h1
  rw [powS_yes hm] at h1
  rw [Cg.one hm.1]
  omega
theorem el_of {P Q : Int} (h : GrpP P Q) {x : Int} (x0 : 0 ≤ x) (x1 : x < P) (e : Cg P.toNat (x.toNat ^ Q.toNat) 1) : InP P Q x := by
  have hm := h.mod
  have hq := h.q5
  have e1 := (Cg.one hm.1).1 e
  refine ⟨?_, x1, ?_⟩
  · rcases Int.lt_or_eq_of_le x0 with h2 | h2
    · exact h2
    · subst h2
      rw [show Int.toNat 0 = 0 from rfl, Nat.zero_pow (by omega)] at e1
      simp at e1
  · unfold powI; rw [powS_yes hm, e1]; rfl
theorem el_unit {P Q : Int} (h : GrpP P Q) {x : Int} (hx : InP P Q x) : Cg P.toNat (x.toNat ^ (Q.toNat - 1) * x.toNat) 1 := by
  have hq := h.q5
  rw [← Nat.pow_succ, show (Q.toNat - 1).succ = Q.toNat by omega]
  exact el_pow h hx
theorem el_cancel {P Q : Int} (h : GrpP P Q) {x : Int} (hx : InP P Q x) {a b : Nat} (e : Cg P.toNat (a * x.toNat) (b * x.toNat)) : Cg P.toNat a b := by
  refine Cg.cancel (el_unit h hx) ?_
  rw [Nat.mul_comm x.toNat a, Nat.mul_comm x.toNat b]; exact e
theorem pow_red {P Q : Int} (h : GrpP P Q) {x : Int} (hx : InP P Q x) (n : Nat) : Cg P.toNat (x.toNat ^ (n % Q.toNat)) (x.toNat ^ n) := by
  have e1 : x.toNat ^ n = x.toNat ^ (Q.toNat * (n / Q.toNat)) * x.toNat ^ (n % Q.toNat) := by rw [← Nat.pow_add, Nat.div_add_mod]
  rw [e1]
  have e2 := ((el_pow h hx).powmul (n / Q.toNat)).mul (Cg.refl P.toNat (x.toNat ^ (n % Q.toNat)))
  rw [Nat.one_mul] at e2
  exact e2.symm
theorem exp_cg {P Q : Int} (h : GrpP P Q) {x : Int} (hx : InP P Q x) {e : Int} (e0 : 0 ≤ e) : Cg P.toNat (expI Q P x e).toNat (x.toNat ^ e.toNat) := by
  have hq := h.q5
  unfold expI powI
  rw [if_neg (by omega), powS_yes h.mod, Int.toNat_natCast]
  refine (Cg.mod _ _).trans ?_
  have : (e % Q).toNat = e.toNat % Q.toNat := by
    obtain ⟨n, rfl⟩ := Int.eq_ofNat_of_zero_le e0
    obtain ⟨q, rfl⟩ := Int.eq_ofNat_of_zero_le (show 0 ≤ Q by omega)
    simp only [Int.ofNat_eq_natCast, ← Int.natCast_emod, Int.toNat_natCast]
  rw [this]
  exact pow_red h hx _
theorem exp_lt {P Q : Int} (h : GrpP P Q) (x e : Int) : 0 ≤ expI Q P x e ∧ expI Q P x e < P := by
  have hq := h.q5
  have h1 := h.mod
  unfold expI powI
  rw [if_neg (by omega), powS_yes h1]
  have := Nat.mod_lt (x.toNat ^ (e % Q).toNat) (show P.toNat > 0 by have := h1.1; omega)
  omega
theorem exp_el {P Q : Int} (h : GrpP P Q) {x : Int} (hx : InP P Q x) {e : Int} (e0 : 0 ≤ e) : InP P Q (expI Q P x e) := by
  refine el_of h (exp_lt h x e).1 (exp_lt h x e).2 (((exp_cg h hx e0).pow Q.toNat).trans ?_)
  rw [← Nat.pow_mul, Nat.mul_comm]
  exact (el_pow h hx).powmul _
theorem mul_el {P Q : Int} (h : GrpP P Q) {x y : Int} (hx : InP P Q x) (hy : InP P Q y) : InP P Q (mulI x y P) := by
  refine el_of h (mul_lt h x y).1 (mul_lt h x y).2 (((mul_cg h x y).pow Q.toNat).trans ?_)
  rw [Nat.mul_pow]
  have := (el_pow h hx).mul (el_pow h hy)
  rwa [Nat.mul_one] at this
theorem one_el {P Q : Int} (h : GrpP P Q) : InP P Q 1 := by
  have := h.q5; have := h.p
  refine el_of h (by omega) (by omega) ?_
  rw [show Int.toNat 1 = 1 from rfl, Nat.one_pow]; exact Cg.refl _ _
/-- the product of a list -/
def prodN : List Int → Nat
  | [] => 1
  | x :: l => x.toNat * prodN l
theorem prodN_snoc (l : List Int) (x : Int) : prodN (l ++ [x]) = prodN l * x.toNat := by
  induction l with
  | nil => simp [prodN]
  | cons y l ih => rw [List.cons_append, prodN, ih, prodN, Nat.mul_assoc]
theorem prod_lt {P Q : Int} (h : GrpP P Q) (l : List Int) : 0 ≤ prodI P l ∧ prodI P l < P := by
  rcases List.eq_nil_or_concat l with e | ⟨l', x, e⟩
  · subst e; have := h.q5; have := h.p; unfold prodI; simp; omega
  · subst e; rw [List.concat_eq_append, prodI_snoc]; exact mul_lt h _ _
theorem prod_cg_len {P Q : Int} (h : GrpP P Q) : ∀ (n : Nat) (l : List Int), l.length = n → Cg P.toNat (prodI P l).toNat (prodN l) := by
  intro n
  induction n with
  | zero => intro l hl; obtain rfl := List.length_eq_zero_iff.1 hl; exact Cg.refl _ _
  | succ n ih =>
    intro l hl
    rcases List.eq_nil_or_concat l with e | ⟨l', x, e⟩
    · subst e; simp at hl
    · subst e
      rw [List.concat_eq_append, prodI_snoc, prodN_snoc]
      exact (mul_cg h _ _).trans ((ih l' (by simpa using hl)).mul (Cg.refl _ _))
theorem prod_cg {P Q : Int} (h : GrpP P Q) (l : List Int) : Cg P.toNat (prodI P l).toNat (prodN l) := prod_cg_len h _ l rfl
theorem prod_el_len {P Q : Int} (h : GrpP P Q) : ∀ (n : Nat) (l : List Int), l.length = n → (∀ x ∈ l, InP P Q x) → InP P Q (prodI P l) := by
  intro n
  induction n with
  | zero => intro l hl _; obtain rfl := List.length_eq_zero_iff.1 hl; exact one_el h
  | succ n ih =>
    intro l hl hx
    rcases List.eq_nil_or_concat l with e | ⟨l', x, e⟩
    · subst e; simp at hl
    · subst e
      rw [List.concat_eq_append] at hx ⊢
      rw [prodI_snoc]
      exact mul_el h (ih l' (by simpa using hl) (fun y hy => hx y (List.mem_append.2 (.inl hy)))) (hx x (List.mem_append.2 (.inr (List.mem_singleton.2 rfl))))
theorem prod_el {P Q : Int} (h : GrpP P Q) {l : List Int} (hl : ∀ x ∈ l, InP P Q x) : InP P Q (prodI P l) := prod_el_len h _ l rfl hl
theorem prod2_cg {P Q : Int} (h : GrpP P Q) (a b : Int) : Cg P.toNat (prodI P [a, b]).toNat (a.toNat * b.toNat) := by
  have := prod_cg h [a, b]
  simp only [prodN, Nat.mul_one] at this
  exact this
theorem prod1_cg {P Q : Int} (h : GrpP P Q) (a : Int) : Cg P.toNat (prodI P [a]).toNat a.toNat := by
  have := prod_cg h [a]
  simp only [prodN, Nat.mul_one] at this
  exact this
theorem prod2_el {P Q : Int} (h : GrpP P Q) {a b : Int} (ha : InP P Q a) (hb : InP P Q b) : InP P Q (prodI P [a, b]) :=
  prod_el h (fun x hx => by rcases List.mem_cons.1 hx with e | hx; · rw [e]; exact ha
                            · rw [List.mem_singleton.1 hx]; exact hb)
theorem prod1_el {P Q : Int} (h : GrpP P Q) {a : Int} (ha : InP P Q a) : InP P Q (prodI P [a]) :=
  prod_el h (fun x hx => by rw [List.mem_singleton.1 hx]; exact ha)
theorem over_cg {P Q : Int} (h : GrpP P Q) (a : Int) {y : Int} (hy : InP P Q y) : Cg P.toNat ((overI P a y).toNat * y.toNat) a.toNat := by
  have hm := h.mod
  have hi := (invS_eq hm (Nat.mod_lt _ (by have := hm.1; omega)) (((Cg.mod P.toNat (y.toNat ^ (Q.toNat - 1))).mul (Cg.refl _ y.toNat)).trans (el_unit h hy))).1
  have h2 := (invS_spec hi).2
  refine ((mul_cg h a (invI y P)).mul (Cg.refl _ _)).trans ?_
  rw [Nat.mul_assoc]
  unfold invI
  rw [Int.toNat_natCast]
  have := (Cg.refl P.toNat a.toNat).mul h2
  rwa [Nat.mul_one] at this
theorem over_lt {P Q : Int} (h : GrpP P Q) (a y : Int) : 0 ≤ overI P a y ∧ overI P a y < P := mul_lt h _ _
theorem over_eq {P Q : Int} (h : GrpP P Q) {a y z : Int} (hy : InP P Q y) (z0 : 0 ≤ z) (z1 : z < P) (e : Cg P.toNat (z.toNat * y.toNat) a.toNat) : overI P a y = z :=
  cg_eq h (over_lt h a y).1 (over_lt h a y).2 z0 z1 (el_cancel h hy ((over_cg h a hy).trans e.symm))
theorem over_el {P Q : Int} (h : GrpP P Q) {a y : Int} (ha : InP P Q a) (hy : InP P Q y) : InP P Q (overI P a y) := by
  refine el_of h (over_lt h a y).1 (over_lt h a y).2 ?_
  have e := (over_cg h a hy).pow Q.toNat
  rw [Nat.mul_pow] at e
  have e2 := (Cg.refl P.toNat ((overI P a y).toNat ^ Q.toNat)).mul (el_pow h hy)
  rw [Nat.mul_one] at e2
  exact e2.symm.trans (e.trans (el_pow h ha))
theorem prod_comm {P Q : Int} (h : GrpP P Q) (a b : Int) : prodI P [a, b] = prodI P [b, a] :=
  cg_eq h (prod_lt h _).1 (prod_lt h _).2 (prod_lt h _).1 (prod_lt h _).2 ((prod2_cg h a b).trans (by rw [Nat.mul_comm]; exact (prod2_cg h b a).symm))
theorem prod_one {P Q : Int} (h : GrpP P Q) {b : Int} (b0 : 0 ≤ b) (b1 : b < P) : prodI P [1, b] = b :=
  cg_eq h (prod_lt h _).1 (prod_lt h _).2 b0 b1 ((prod2_cg h 1 b).trans (by rw [show Int.toNat 1 = 1 from rfl, Nat.one_mul]; exact Cg.refl _ _))
end Go.Proofs.Ytfoncfojljmimaa
