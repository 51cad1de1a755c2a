/- What the functions of layer 1 compute, as numbers: plain Lean, no program in it. -/
import Derived.Test.YtfoncfojljmimaaNT
set_option linter.unusedVariables false
set_option linter.unusedSimpArgs false
namespace Go.Proofs.Ytfoncfojljmimaa
open NT
/-- a modulus -/
def Modulus (m : Nat) : Prop := 2 ≤ m ∧ m ≤ 4611686018427387904
noncomputable def addS (a b m : Nat) : Nat := open Classical in if Modulus m then (a + b) % m else 0
noncomputable def subS (a b m : Nat) : Nat := open Classical in if Modulus m then (a % m + m - b % m) % m else 0
noncomputable def mulS (a b m : Nat) : Nat := open Classical in if Modulus m then a * b % m else 0
noncomputable def powS (a e m : Nat) : Nat := open Classical in if Modulus m then a ^ e % m else 0
/-- some number below m makes 1 of a -/
def HasInv (a m : Nat) : Prop := Modulus m ∧ ∃ x, x < m ∧ Cg m (x * a) 1
noncomputable def invS (a m : Nat) : Nat := open Classical in if h : HasInv a m then h.2.choose else 0
theorem addS_yes {a b m : Nat} (h : Modulus m) : addS a b m = (a + b) % m := if_pos h
theorem subS_yes {a b m : Nat} (h : Modulus m) : subS a b m = (a % m + m - b % m) % m := if_pos h
theorem mulS_yes {a b m : Nat} (h : Modulus m) : mulS a b m = a * b % m := if_pos h
theorem powS_yes {a b m : Nat} (h : Modulus m) : powS a b m = a ^ b % m := if_pos h
theorem addS_no {a b m : Nat} (h : ¬ Modulus m) : addS a b m = 0 := if_neg h
theorem subS_no {a b m : Nat} (h : ¬ Modulus m) : subS a b m = 0 := if_neg h
theorem mulS_no {a b m : Nat} (h : ¬ Modulus m) : mulS a b m = 0 := if_neg h
theorem powS_no {a b m : Nat} (h : ¬ Modulus m) : powS a b m = 0 := if_neg h
theorem invS_spec {a m : Nat} (h : HasInv a m) : invS a m < m ∧ Cg m (invS a m * a) 1 := by
  unfold invS; rw [dif_pos h]; exact h.2.choose_spec
theorem invS_eq {a m x : Nat} (hm : Modulus m) (hx : x < m) (h : Cg m (x * a) 1) : HasInv a m ∧ invS a m = x := by
  have hi : HasInv a m := ⟨hm, x, hx, h⟩
  obtain ⟨h1, h2⟩ := invS_spec hi
  exact ⟨hi, inv_uniq h1 hx h2 h⟩
theorem invS_no {a m : Nat} (h : ¬ HasInv a m) : invS a m = 0 := dif_neg h
theorem hasInv_gcd {a m : Nat} (h : HasInv a m) : Nat.gcd m (a % m) = 1 := by
  obtain ⟨hm, x, hx, h1⟩ := h
  exact gcd_of_inv hm.1 h1
noncomputable def hasB (a m : Nat) : Bool := open Classical in decide (HasInv a m)
theorem hasB_yes {a m : Nat} (h : HasInv a m) : hasB a m = true := by unfold hasB; classical exact decide_eq_true h
theorem hasB_no {a m : Nat} (h : ¬ HasInv a m) : hasB a m = false := by unfold hasB; classical exact decide_eq_false h
theorem hasB_iff {a m : Nat} : hasB a m = true ↔ HasInv a m := by unfold hasB; classical exact decide_eq_true_iff
/-- a product below the modulus, closed to the walk -/
def tm (a b m : Nat) : Nat := a * b % m
/-- Euclid's way, on the road: what is left, and how often a is in it -/
structure Euc (a m : Nat) (b n w i : Int) : Prop where
  b0 : 0 ≤ b
  bl : b ≤ m
  n0 : 0 ≤ n
  nl : n < m
  w0 : 0 ≤ w
  wl : w < m
  i0 : 0 ≤ i
  il : i < m
  wa : Cg m (w.toNat * a) b.toNat
  ia : Cg m (i.toNat * a) n.toNat
  gcd : Nat.gcd b.toNat n.toNat = Nat.gcd m (a % m)
theorem Euc.start {a m : Nat} (h : 2 ≤ m) : Euc a m m (a % m : Nat) 0 1 := by
  have hl := Nat.mod_lt a (show 0 < m by omega)
  refine ⟨by omega, by omega, by omega, by omega, by omega, by omega, by omega, by omega, ?_, ?_, ?_⟩
  · simp [Cg]
  · simp only [Int.toNat_one, Nat.one_mul, Int.toNat_natCast]; exact (Cg.mod m a).symm
  · simp only [Int.toNat_natCast]
theorem subS_back {x t m : Nat} (h : Modulus m) : Cg m (subS x t m + t) x := by
  rw [subS_yes h]
  unfold Cg
  have := Nat.mod_lt t (show 0 < m by have := h.1; omega)
  rw [Nat.mod_add_mod, Nat.add_mod, show x % m + m - t % m = (x % m - 0) + (m - t % m) by omega]
  have e : (x % m - 0 + (m - t % m)) % m + t % m = (x % m - 0 + (m - t % m)) % m + (t % m) % m := by rw [Nat.mod_mod]
  rw [e, ← Nat.add_mod, show x % m - 0 + (m - t % m) + t % m = x % m + m by omega, Nat.add_mod_right, Nat.mod_mod]
theorem subS_lt {x t m : Nat} (h : Modulus m) : subS x t m < m := by
  rw [subS_yes h]; exact Nat.mod_lt _ (by have := h.1; omega)
theorem Euc.step {a m : Nat} {b n w i : Int} (h : Euc a m b n w i) (hm : Modulus m) (hn : 0 < n) :
    Euc a m n (b % n) i (subS w.toNat (tm ((b / n) % m).toNat i.toNat m) m : Nat) := by
  obtain ⟨b0, bl, n0, nl, w0, wl, i0, il, wa, ia, g⟩ := h
  have r1 := Int.emod_nonneg b (show n ≠ 0 by omega)
  have r2 := Int.emod_lt_of_pos b hn
  have hsl := subS_lt (x := w.toNat) (t := tm ((b / n) % m).toNat i.toNat m) hm
  refine ⟨n0, by omega, r1, by omega, i0, il, by omega, by omega, ia, ?_, ?_⟩
  · obtain ⟨b, rfl⟩ := Int.eq_ofNat_of_zero_le b0
    obtain ⟨n, rfl⟩ := Int.eq_ofNat_of_zero_le n0
    have e1 : ((b : Int) % (n : Int)).toNat = b % n := by rw [← Int.natCast_emod]; rfl
    have e2 : (((b : Int) / (n : Int)) % (m : Int)).toNat = b / n % m := by rw [← Int.natCast_ediv, ← Int.natCast_emod]; rfl
    simp only [Int.toNat_natCast] at wa ia ⊢
    rw [e1, e2]
    refine euclid_step (b := b) (n := n) (w := w.toNat) (i := i.toNat) (t := tm (b / n % m) i.toNat m) wa ia rfl ?_ (subS_back hm)
    unfold tm
    exact (Cg.mod m _).trans ((Cg.mod m _).mul (Cg.refl m _))
  · rw [← g]
    obtain ⟨b, rfl⟩ := Int.eq_ofNat_of_zero_le b0
    obtain ⟨n, rfl⟩ := Int.eq_ofNat_of_zero_le n0
    have e1 : ((b : Int) % (n : Int)).toNat = b % n := by rw [← Int.natCast_emod]; rfl
    simp only [Int.toNat_natCast]
    rw [e1]
    exact gcd_step
theorem Euc.yes {a m : Nat} {w i : Int} (h : Euc a m 1 0 w i) (hm : Modulus m) : HasInv a m ∧ (invS a m : Int) = w := by
  obtain ⟨b0, bl, n0, nl, w0, wl, i0, il, wa, ia, g⟩ := h
  have := invS_eq (a := a) hm (show w.toNat < m by omega) wa
  exact ⟨this.1, by omega⟩
theorem Euc.no {a m : Nat} {b w i : Int} (h : Euc a m b 0 w i) (hb : b ≠ 1) : ¬ HasInv a m := by
  intro hi
  have h1 := hasInv_gcd hi
  have h2 := h.gcd
  have h3 := h.b0
  rw [h1] at h2
  simp at h2
  omega
end Go.Proofs.Ytfoncfojljmimaa
