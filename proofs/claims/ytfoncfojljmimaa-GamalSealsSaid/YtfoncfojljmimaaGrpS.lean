/- What the functions of layer 4 compute, as whole numbers: plain Lean, no program in it. -/
import Derived.Test.YtfoncfojljmimaaPrimeS
set_option linter.unusedVariables false
set_option linter.unusedSimpArgs false
namespace Go.Proofs.Ytfoncfojljmimaa
open NT
noncomputable def mulI (a b p : Int) : Int := (mulS a.toNat b.toNat p.toNat : Nat)
noncomputable def invI (a p : Int) : Int := (invS a.toNat p.toNat : Nat)
noncomputable def expI (q p x e : Int) : Int := if q < 2 then 0 else powI x (e % q) p
noncomputable def prodI (p : Int) (l : List Int) : Int := l.foldl (fun n x => mulI n x p) 1
noncomputable def overI (p x y : Int) : Int := mulI x (invI y p) p
def InP (p q x : Int) : Prop := 0 < x ∧ x < p ∧ powI x q p = 1
noncomputable def inB (p q x : Int) : Bool := open Classical in decide (InP p q x)
theorem inB_yes {p q x : Int} (h : InP p q x) : inB p q x = true := by unfold inB; classical exact decide_eq_true h
theorem inB_no {p q x : Int} (h : ¬ InP p q x) : inB p q x = false := by unfold inB; classical exact decide_eq_false h
theorem inB_iff {p q x : Int} : inB p q x = true ↔ InP p q x := by unfold inB; classical exact decide_eq_true_iff
def RightP (P Q G H : Int) (rs : List RowD) : Prop := 5 ≤ Q ∧ Q < 2305843009213693952 ∧ P = 2 * Q + 1 ∧ ProvedP P rs ∧ ProvedP Q rs ∧ InP P Q G ∧ InP P Q H ∧ G ≠ 1 ∧ H ≠ 1 ∧ G ≠ H
noncomputable def grpB (P Q G H : Int) (rs : List RowD) : Bool := open Classical in decide (RightP P Q G H rs)
theorem grpB_yes {P Q G H : Int} {rs : List RowD} (h : RightP P Q G H rs) : grpB P Q G H rs = true := by unfold grpB; classical exact decide_eq_true h
theorem grpB_no {P Q G H : Int} {rs : List RowD} (h : ¬ RightP P Q G H rs) : grpB P Q G H rs = false := by unfold grpB; classical exact decide_eq_false h
theorem grpB_iff {P Q G H : Int} {rs : List RowD} : grpB P Q G H rs = true ↔ RightP P Q G H rs := by unfold grpB; classical exact decide_eq_true_iff
theorem mulS_small (a b m : Nat) : mulS a b m < 4611686018427387904 := by
  classical
  by_cases h : Modulus m
  · rw [mulS_yes h]
    have := Nat.mod_lt (a * b) (show m > 0 by have := h.1; omega)
    have := h.2
    omega
  · rw [mulS_no h]; omega
theorem powS_small (a b m : Nat) : powS a b m < 4611686018427387904 := by
  classical
  by_cases h : Modulus m
  · rw [powS_yes h]
    have := Nat.mod_lt (a ^ b) (show m > 0 by have := h.1; omega)
    have := h.2
    omega
  · rw [powS_no h]; omega
theorem invS_small (a m : Nat) : invS a m < 4611686018427387904 := by
  by_cases h : HasInv a m
  · have h1 := (invS_spec h).1
    have := h.1.2
    omega
  · rw [invS_no h]; omega
theorem mulI_u (a b p : Int) : 0 ≤ mulI a b p ∧ mulI a b p < 18446744073709551616 := by
  unfold mulI; have := mulS_small a.toNat b.toNat p.toNat; omega
theorem powI_u (a b p : Int) : 0 ≤ powI a b p ∧ powI a b p < 18446744073709551616 := by
  unfold powI; have := powS_small a.toNat b.toNat p.toNat; omega
theorem invI_u (a p : Int) : 0 ≤ invI a p ∧ invI a p < 18446744073709551616 := by
  unfold invI; have := invS_small a.toNat p.toNat; omega
theorem expI_u (q p x e : Int) : 0 ≤ expI q p x e ∧ expI q p x e < 18446744073709551616 := by
  unfold expI; split
  · omega
  · exact powI_u _ _ _
theorem overI_u (p x y : Int) : 0 ≤ overI p x y ∧ overI p x y < 18446744073709551616 := mulI_u _ _ _
theorem prodI_snoc (p : Int) (l : List Int) (x : Int) : prodI p (l ++ [x]) = mulI (prodI p l) x p := by
  unfold prodI; rw [List.foldl_append]; rfl
theorem prodI_u (p : Int) (l : List Int) : 0 ≤ prodI p l ∧ prodI p l < 18446744073709551616 := by
  rcases List.eq_nil_or_concat l with h | ⟨l', x, h⟩
  · subst h; unfold prodI; simp
  · subst h; rw [List.concat_eq_append, prodI_snoc]; exact mulI_u _ _ _
theorem prodI_take (p : Int) (l : List Int) (i : Nat) (h : i < l.length) : prodI p (l.take (i + 1)) = mulI (prodI p (l.take i)) (l.getD i 0) p := by
  rw [List.take_succ_eq_append_getElem h, prodI_snoc]
  simp [List.getD, h]
end Go.Proofs.Ytfoncfojljmimaa
