/- A group has just Q elements, and G's powers are Q of them: plain Lean, no program in it. -/
import Derived.Test.YtdinemhodnleeaaLayN
set_option linter.unusedVariables false
set_option linter.unusedSimpArgs false
namespace Go.Proofs.Ytdinemhodnleeaa
open NT
/-- how many of the first n numbers -/
noncomputable def cnt (f : Nat → Bool) : Nat → Nat
  | 0 => 0
  | n + 1 => cnt f n + (if f n then 1 else 0)
theorem cnt_le (f : Nat → Bool) (n : Nat) : cnt f n ≤ n := by
  induction n with
  | zero => exact Nat.le_refl 0
  | succ n ih => unfold cnt; split <;> omega
theorem cnt_yes {f : Nat → Bool} {n : Nat} (h : f n = true) : cnt f (n + 1) = cnt f n + 1 := by simp [cnt, h]
theorem cnt_no {f : Nat → Bool} {n : Nat} (h : f n = false) : cnt f (n + 1) = cnt f n := by simp [cnt, h]
theorem cnt_shift (f : Nat → Bool) (n : Nat) : cnt f (n + 1) = (if f 0 then 1 else 0) + cnt (fun i => f (i + 1)) n := by
  induction n with
  | zero => simp [cnt]
  | succ n ih => rw [cnt, ih]; simp only [cnt]; omega
theorem cnt_rev (f : Nat → Bool) (n : Nat) : cnt (fun i => f (n - 1 - i)) n = cnt f n := by
  induction n with
  | zero => rfl
  | succ n ih =>
    rw [cnt_shift]
    simp only [cnt]
    rw [← ih]
    have e : (fun i => f (n + 1 - 1 - (i + 1))) = (fun i => f (n - 1 - i)) := funext fun i => by rw [show n + 1 - 1 - (i + 1) = n - 1 - i by omega]
    rw [e, show n + 1 - 1 - 0 = n by omega]
    omega
theorem cnt_not (f g : Nat → Bool) (n : Nat) (h : ∀ i, i < n → g i = !f i) : cnt f n + cnt g n = n := by
  induction n with
  | zero => rfl
  | succ n ih =>
    simp only [cnt]
    have := ih (fun i hi => h i (by omega))
    rw [h n (by omega)]
    cases f n <;> simp <;> omega
theorem elem_count {P Q G H : Int} {rs : List RowD} (hF : Fine rs) (h : RightP P Q G H rs) : cnt (fun i => inB P Q i) P.toNat = Q.toNat := by
  have hP := h.2.2.1
  have hQ := h.1
  obtain ⟨n, hn⟩ : ∃ n, P.toNat = n + 1 := ⟨P.toNat - 1, by omega⟩
  rw [hn, cnt_shift]
  have h0 : inB P Q ((0 : Nat) : Int) = false := inB_no (fun h => by have := h.1; omega)
  rw [h0]
  have hr := cnt_rev (fun i => inB P Q ((i + 1 : Nat) : Int)) n
  have hs := cnt_not (fun i => inB P Q ((i + 1 : Nat) : Int)) (fun i => inB P Q ((n - 1 - i + 1 : Nat) : Int)) n (fun i hi => by
    have he := elem_neg hF h (x := ((i + 1 : Nat) : Int)) (by omega) (by omega)
    rw [show ((n - 1 - i + 1 : Nat) : Int) = P - ((i + 1 : Nat) : Int) by omega]
    by_cases hx : InP P Q ((i + 1 : Nat) : Int)
    · rw [inB_yes hx, inB_no (fun h => he.1 h hx)]; rfl
    · rw [inB_no hx, inB_yes (he.2 hx)]; rfl)
  simp only [Bool.false_eq_true, if_false]
  omega
theorem pow_inj {P Q G H : Int} {rs : List RowD} (hF : Fine rs) (h : RightP P Q G H rs) {i j : Nat} (hij : i < j) (hj : j < Q.toNat) : ¬ Cg P.toNat (G.toNat ^ i) (G.toNat ^ j) := by
  intro hc
  obtain ⟨q5, q1, hP, pP, pQ, hG, _, g1, _⟩ := h
  obtain ⟨_, _, g', hg'⟩ := proved_root hF pQ
  have hq := hg'.prime
  have hGQ : Cg P.toNat (G.toNat ^ Q.toNat) 1 := by
    have h1 := hG.2.2
    rw [powI_eq (by omega) (by omega)] at h1
    rw [Cg.one (by omega)]
    omega
  have hu : Cg P.toNat (G.toNat ^ (Q.toNat - i) * G.toNat ^ i) 1 := by
    rw [← Nat.pow_add, Nat.sub_add_cancel (by omega)]; exact hGQ
  have h1 : Cg P.toNat (G.toNat ^ (j - i)) 1 := by
    refine Cg.symm (Cg.cancel hu ?_)
    rw [Nat.mul_one, ← Nat.pow_add, show i + (j - i) = j by omega]
    exact hc
  obtain ⟨d, ⟨hd0, hd1⟩, hmin⟩ := least (fun d => 0 < d ∧ Cg P.toNat (G.toNat ^ d) 1) ⟨Q.toNat, by omega, hGQ⟩
  have hl : ∀ k, 0 < k → k < d → ¬ Cg P.toNat (G.toNat ^ k) 1 := fun k h0 hk hx => hmin k hk ⟨h0, hx⟩
  rcases hq.2 d (order_dvd hd1 hd0 hl hGQ) with e | e
  · subst e
    rw [Nat.pow_one, Cg.one (by omega), Nat.mod_eq_of_lt (by have := hG.2.1; omega)] at hd1
    omega
  · have := Nat.le_of_dvd (by omega) (order_dvd hd1 hd0 hl h1)
    omega
theorem exp_inj {P Q G H : Int} {rs : List RowD} (hF : Fine rs) (h : RightP P Q G H rs) {i : Nat} {e : Int} (he : e < Q) (hi : i < e.toNat) : expI Q P G e ≠ expI Q P G i := by
  intro hc
  have hn := pow_inj hF h hi (by omega)
  obtain ⟨q5, q1, hP, _⟩ := h
  unfold expI at hc
  rw [if_neg (by omega), if_neg (by omega), Int.emod_eq_of_lt (by omega) he, Int.emod_eq_of_lt (by omega) (by omega), powI_eq (by omega) (by omega), powI_eq (by omega) (by omega)] at hc
  apply hn
  unfold Cg
  simp only [Int.toNat_natCast] at hc
  omega
end Go.Proofs.Ytdinemhodnleeaa
