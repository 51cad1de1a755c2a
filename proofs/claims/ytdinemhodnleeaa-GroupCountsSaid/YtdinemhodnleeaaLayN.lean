/- Of a number and its negative just one is an element; so Lay and Back undo each other: plain Lean, no program in it. -/
import Derived.Test.YtdinemhodnleeaaLayS
import Derived.Test.YtdinemhodnleeaaPrimeN
set_option linter.unusedVariables false
set_option linter.unusedSimpArgs false
namespace Go.Proofs.Ytdinemhodnleeaa
open NT
theorem sq_neg {d x : Nat} : Cg (d + x) (d * d) (x * x) := by
  unfold Cg
  have h1 : d * d + (d + x) * (2 * x) = x * x + (d + x) * (d + x) := by
    simp only [Nat.add_mul, Nat.mul_add]
    have := Nat.mul_comm d x
    have e1 : d * (2 * x) = 2 * (d * x) := Nat.mul_left_comm d 2 x
    have e2 : x * (2 * x) = 2 * (x * x) := Nat.mul_left_comm x 2 x
    omega
  have h2 := congrArg (fun z => z % (d + x)) h1
  simp only [Nat.add_mul_mod_self_left] at h2
  exact h2
theorem neg_pow {d x k : Nat} : (d ^ (2 * k + 1) + x ^ (2 * k + 1)) % (d + x) = 0 := by
  have e : ∀ y : Nat, y ^ (2 * k + 1) = (y * y) ^ k * y := fun y => by rw [Nat.pow_succ, Nat.pow_mul, Nat.pow_two]
  rw [e d, e x]
  have h1 : Cg (d + x) ((d * d) ^ k * d) ((x * x) ^ k * d) := Cg.mul (sq_neg.pow k) (Cg.refl _ _)
  have h2 : Cg (d + x) ((d * d) ^ k * d + (x * x) ^ k * x) ((x * x) ^ k * d + (x * x) ^ k * x) := Cg.add h1 (Cg.refl _ _)
  rw [show (d * d) ^ k * d + (x * x) ^ k * x = _ from rfl, show ((d * d) ^ k * d + (x * x) ^ k * x) % (d + x) = ((x * x) ^ k * d + (x * x) ^ k * x) % (d + x) from h2, ← Nat.mul_add]
  exact Nat.mul_mod_left _ _
theorem sq_one {p y : Nat} (hp : Prime p) (h : Cg p (y * y) 1) : y % p = 1 ∨ y % p = p - 1 := by
  have h2 := hp.1
  have h1 : (y % p) * (y % p) % p = 1 := by
    have := (Cg.mul (Cg.mod p y) (Cg.mod p y)).trans h
    unfold Cg at this
    rw [this]; exact Nat.mod_eq_of_lt (by omega)
  obtain ⟨z, hz⟩ : ∃ z, y % p = z := ⟨_, rfl⟩
  have hlt : z < p := by rw [← hz]; exact Nat.mod_lt _ (by omega)
  rw [hz] at h1 ⊢
  have hz0 : z ≠ 0 := by intro e; subst e; simp at h1
  obtain ⟨u, rfl⟩ : ∃ u, z = u + 1 := ⟨z - 1, by omega⟩
  have hd : p ∣ u * (u + 2) := by
    have e : (u + 1) * (u + 1) = u * (u + 2) + 1 := by simp only [Nat.add_mul, Nat.mul_add]; omega
    rw [e] at h1
    have h3 : (u * (u + 2) + 1) % p = (0 + 1) % p := by rw [h1, Nat.mod_eq_of_lt (by omega)]
    have h4 : Cg p (u * (u + 2)) 0 := Cg.add_cancel (c := 1) h3
    exact Nat.dvd_of_mod_eq_zero (by unfold Cg at h4; simpa using h4)
  rcases hp.dvd_mul hd with h | h
  · have := Nat.eq_zero_of_dvd_of_lt h (by omega); left; omega
  · have := Nat.le_of_dvd (by omega) h; right; omega
theorem odd_prime {q : Nat} (hq : Prime q) (h5 : 5 ≤ q) : ∃ k, q = 2 * k + 1 := by
  by_cases h : q % 2 = 0
  · rcases hq.2 2 (Nat.dvd_of_mod_eq_zero h) with e | e
    · omega
    · omega
  · exact ⟨q / 2, by omega⟩
theorem sum_mod {a b p : Nat} (hp : 2 < p) (h : (a + b) % p = 0) : (a % p = 1 → b % p = p - 1) ∧ (a % p = p - 1 → b % p = 1) := by
  have hb : b % p < p := Nat.mod_lt _ (by omega)
  have ha : a % p < p := Nat.mod_lt _ (by omega)
  rw [Nat.add_mod] at h
  have h1 : p ∣ a % p + b % p := Nat.dvd_of_mod_eq_zero h
  obtain ⟨c, hc⟩ := h1
  have hc2 : c < 2 := by
    rcases Nat.lt_or_ge c 2 with x | x
    · exact x
    · have : p * 2 ≤ p * c := Nat.mul_le_mul_left p x
      omega
  match c, hc2 with
  | 0, _ => constructor <;> intro h <;> omega
  | 1, _ => constructor <;> intro h <;> omega
theorem elem_neg {P Q G H : Int} {rs : List RowD} (hF : Fine rs) (h : RightP P Q G H rs) {x : Int} (h0 : 0 < x) (h1 : x < P) : InP P Q (P - x) ↔ ¬ InP P Q x := by
  obtain ⟨q5, q1, hP, pP, pQ, _⟩ := h
  obtain ⟨_, _, g, hg⟩ := proved_root hF pP
  obtain ⟨_, _, g', hg'⟩ := proved_root hF pQ
  obtain ⟨k, hk⟩ := odd_prime hg'.prime (by omega)
  have e1 : powI x Q P = (x.toNat ^ Q.toNat % P.toNat : Nat) := powI_eq (by omega) (by omega)
  have e2 : powI (P - x) Q P = ((P - x).toNat ^ Q.toNat % P.toNat : Nat) := powI_eq (by omega) (by omega)
  unfold InP
  rw [e1, e2]
  obtain ⟨d, hd⟩ : ∃ d, (P - x).toNat = d := ⟨_, rfl⟩
  obtain ⟨y, hy⟩ : ∃ y, x.toNat = y := ⟨_, rfl⟩
  obtain ⟨p, hp⟩ : ∃ p, P.toNat = p := ⟨_, rfl⟩
  obtain ⟨q, hq⟩ : ∃ q, Q.toNat = q := ⟨_, rfl⟩
  rw [hp] at hg
  rw [hd, hy, hp, hq]
  have hdy : d + y = p := by omega
  have hpq : p - 1 = q + q := by omega
  have hn := neg_pow (d := d) (x := y) (k := k)
  rw [hdy, ← hk, hq, Nat.add_comm] at hn
  have hs := sum_mod (by omega) hn
  have hf := hg.fermat y (by rw [Nat.mod_eq_of_lt (by omega)]; omega)
  rw [hpq, Nat.pow_add] at hf
  have ho := sq_one hg.prime hf
  constructor
  · rintro ⟨_, _, hb⟩ ⟨_, _, ha⟩
    have := hs.1 (by omega)
    omega
  · intro hn
    refine ⟨by omega, by omega, ?_⟩
    rcases ho with ho | ho
    · exact absurd ⟨h0, h1, by omega⟩ hn
    · have := hs.2 ho
      omega
theorem lay_back {P Q G H : Int} {rs : List RowD} (hF : Fine rs) (h : RightP P Q G H rs) {k : Int} (h0 : 0 ≤ k) (h1 : k < Q) : InP P Q (layV P Q k) ∧ backV P Q (layV P Q k) = k := by
  have hP := h.2.2.1
  have hQ := h.1
  by_cases hi : InP P Q (k + 1)
  · rw [layV_in h1 hi]
    exact ⟨hi, by rw [backV_low hi (by omega)]; omega⟩
  · have hn := (elem_neg hF h (x := k + 1) (by omega) (by omega)).2 hi
    rw [layV_out h1 hi]
    exact ⟨hn, by rw [backV_high hn (by omega)]; omega⟩
theorem back_lay {P Q G H : Int} {rs : List RowD} (hF : Fine rs) (h : RightP P Q G H rs) {x : Int} (hx : InP P Q x) : backV P Q x < Q ∧ 0 ≤ backV P Q x ∧ layV P Q (backV P Q x) = x := by
  have hP := h.2.2.1
  have hQ := h.1
  have h0 := hx.1
  have h1 := hx.2.1
  by_cases hq : x ≤ Q
  · rw [backV_low hx hq]
    refine ⟨by omega, by omega, ?_⟩
    rw [layV_in (by omega) (by rw [show x - 1 + 1 = x by omega]; exact hx)]
    omega
  · rw [backV_high hx hq]
    refine ⟨by omega, by omega, ?_⟩
    have hn : ¬ InP P Q (P - x - 1 + 1) := by
      rw [show P - x - 1 + 1 = P - x by omega]
      intro hc
      exact (elem_neg hF h h0 h1).1 hc hx
    rw [layV_out (by omega) hn]
    omega
end Go.Proofs.Ytdinemhodnleeaa
