/- Plain arithmetic behind the division of two words by one word: no program in it. -/
import Derived.Laws.BitsAllLaws
import Derived.Lib.BitFns
import Derived.RowKit
set_option linter.unusedVariables false
set_option linter.unusedSimpArgs false
namespace Go.Proofs.Ytfoncfojljmimaa
namespace DivN
theorem wrap_nat (n : Nat) (h : n < 18446744073709551616) : IntKind.u64.wrap (n : Int) = (n : Int) := by
  rw [IntKind.wrap_u64]; omega
theorem bitLen_two : ∀ (k y : Nat), y < 2 ^ k → 0 < y → y < 18446744073709551616 → 1 ≤ Lib.bitLen y ∧ Lib.bitLen y ≤ 64 ∧ 2 ^ (Lib.bitLen y - 1) ≤ y ∧ y < 2 ^ Lib.bitLen y := by
  intro k
  induction k with
  | zero => intro y h h0; simp at h; omega
  | succ k ih =>
    intro y h h0 hy
    rw [Nat.pow_succ] at h
    have hb := Lib.bitLen_half y (by omega) hy
    by_cases h1 : y = 1
    · subst h1; decide
    · obtain ⟨a, b, c, d⟩ := ih (y / 2) (by omega) (by omega) (by omega)
      have hle := Lib.bitLen_le y 64 (by omega) hy
      rw [hb] at hle ⊢
      generalize Lib.bitLen (y / 2) = t at *
      obtain ⟨t, rfl⟩ : ∃ t', t = t' + 1 := ⟨t - 1, by omega⟩
      refine ⟨by omega, hle, ?_, ?_⟩
      · rw [show 1 + (t + 1) - 1 = t + 1 by omega, Nat.pow_succ]
        simp only [Nat.add_sub_cancel] at c
        omega
      · rw [show 1 + (t + 1) = (t + 1) + 1 by omega, Nat.pow_succ]
        omega
theorem norm (y : Nat) (h0 : 0 < y) (hy : y < 18446744073709551616) : ∃ s : Nat, s ≤ 63 ∧ 64 - (Lib.bitLen y : Int) = s ∧ 9223372036854775808 ≤ y * 2 ^ s ∧ y * 2 ^ s < 18446744073709551616 := by
  obtain ⟨a, b, c, d⟩ := bitLen_two 64 y hy h0 hy
  generalize Lib.bitLen y = t at *
  refine ⟨64 - t, by omega, by omega, ?_, ?_⟩
  · have : 2 ^ (t - 1) * 2 ^ (64 - t) = 9223372036854775808 := by
      rw [← Nat.pow_add, show t - 1 + (64 - t) = 63 by omega]
    rw [← this]
    exact Nat.mul_le_mul_right _ c
  · have : 2 ^ t * 2 ^ (64 - t) = 18446744073709551616 := by
      rw [← Nat.pow_add, show t + (64 - t) = 64 by omega]
    rw [← this]
    exact Nat.mul_lt_mul_of_pos_right d (Nat.two_pow_pos _)
theorem masked (n : Nat) (h : n < 18446744073709551616) : bits .and .u64 (n : Int) 4294967295 = ((n % 4294967296 : Nat) : Int) := by
  have := u64_and_nat n 4294967295 h (by decide)
  rw [show ((4294967295 : Nat) : Int) = 4294967295 from rfl] at this
  rw [this, show (4294967295 : Nat) = 2 ^ 32 - 1 from rfl, Nat.and_two_pow_sub_one_eq_mod]

/-- The two words, laid to the left. -/
structure Laid (hi lo y s u u1 u0 : Nat) : Prop where
  eq : (u * 4294967296 + u1) * 4294967296 + u0 = (hi * 18446744073709551616 + lo) * 2 ^ s
  lt : u < y * 2 ^ s
  l1 : u1 < 4294967296
  l0 : u0 < 4294967296
theorem low_split (lo s : Nat) (hs : s ≤ 63) (hlo : lo < 18446744073709551616) : lo / 2 ^ (64 - s) * 18446744073709551616 + lo * 2 ^ s % 18446744073709551616 = lo * 2 ^ s := by
  have e1 : lo * 2 ^ s / 18446744073709551616 = lo / 2 ^ (64 - s) := by
    have : 18446744073709551616 = 2 ^ (64 - s) * 2 ^ s := by rw [← Nat.pow_add, show 64 - s + s = 64 by omega]
    rw [this, Nat.mul_div_mul_right _ _ (Nat.two_pow_pos _)]
  rw [← e1, Nat.mul_comm]
  exact Nat.div_add_mod _ _
theorem laid (hi lo y s : Nat) (hhi : hi < y) (hlo : lo < 18446744073709551616) (hs : s ≤ 63) :
    Laid hi lo y s (hi * 2 ^ s + lo / 2 ^ (64 - s)) (lo * 2 ^ s % 18446744073709551616 / 4294967296) (lo * 2 ^ s % 18446744073709551616 % 4294967296) := by
  have e := low_split lo s hs hlo
  have e2 : (hi * 2 ^ s + lo / 2 ^ (64 - s)) * 18446744073709551616 + lo * 2 ^ s % 18446744073709551616 = (hi * 18446744073709551616 + lo) * 2 ^ s := by
    rw [Nat.add_mul, Nat.add_mul, Nat.add_assoc, e, Nat.mul_right_comm hi]
  generalize hL : lo * 2 ^ s % 18446744073709551616 = L at *
  have hLlt : L < 18446744073709551616 := by rw [← hL]; exact Nat.mod_lt _ (by omega)
  generalize hU : hi * 2 ^ s + lo / 2 ^ (64 - s) = U at *
  clear e
  have e3 : (U * 4294967296 + L / 4294967296) * 4294967296 + L % 4294967296 = U * 18446744073709551616 + L := by clear e2 hL hU; omega
  refine ⟨e3.trans e2, ?_, by clear e2 hL hU; omega, by clear e2 hL hU; omega⟩
  have h3 : (hi * 18446744073709551616 + lo) * 2 ^ s < (y * 18446744073709551616) * 2 ^ s := Nat.mul_lt_mul_of_pos_right (by omega) (Nat.two_pow_pos _)
  rw [Nat.mul_right_comm y] at h3
  generalize y * 2 ^ s = Y at *
  omega
/-- 'hi << s | lo >> (64 - s)' -/
theorem orr (hi lo y s : Nat) (hhi : hi < y) (hlo : lo < 18446744073709551616) (hs : s ≤ 63) (hY : y * 2 ^ s < 18446744073709551616) :
    hi * 2 ^ s < 18446744073709551616 ∧ lo / 2 ^ (64 - s) < 2 ^ s ∧ (hi * 2 ^ s ||| lo / 2 ^ (64 - s)) = hi * 2 ^ s + lo / 2 ^ (64 - s) := by
  have h1 : hi * 2 ^ s < y * 2 ^ s := Nat.mul_lt_mul_of_pos_right hhi (Nat.two_pow_pos _)
  have h2 : lo / 2 ^ (64 - s) < 2 ^ s := by
    rw [Nat.div_lt_iff_lt_mul (Nat.two_pow_pos _), ← Nat.pow_add, show s + (64 - s) = 64 by omega]
    exact hlo
  refine ⟨by omega, h2, ?_⟩
  rw [Nat.mul_comm hi, Nat.two_pow_add_eq_or_of_lt h2]
/-- The guess q, with what is left r, is right or too large. -/
structure Guess (v1 v0 u u1 q r : Nat) : Prop where
  eq : q * v1 + r = u
  ge : (u * 4294967296 + u1) / (v1 * 4294967296 + v0) ≤ q
structure GuessI (v1 v0 u u1 : Nat) (q r : Int) : Prop where
  g : Guess v1 v0 u u1 q.toNat r.toNat
  q0 : 0 ≤ q
  r0 : 0 ≤ r
  rl : r < 4294967296
variable {v1 v0 u u1 q r : Nat}
theorem Guess.start (hv : 0 < v1) (hu1 : u1 < 4294967296) : Guess v1 v0 u u1 (u / v1) (u % v1) := by
  refine ⟨by rw [Nat.mul_comm]; exact Nat.div_add_mod u v1, ?_⟩
  have h1 : (u * 4294967296 + u1) / (v1 * 4294967296 + v0) ≤ (u * 4294967296 + u1) / (v1 * 4294967296) := Nat.div_le_div_left (by omega) (by omega)
  rw [Nat.mul_comm v1, ← Nat.div_div_eq_div_mul] at h1
  rwa [show (u * 4294967296 + u1) / 4294967296 = u by omega, Nat.mul_comm 4294967296 v1] at h1
theorem Guess.mulE (h : Guess v1 v0 u u1 q r) : q * (v1 * 4294967296 + v0) + r * 4294967296 = u * 4294967296 + q * v0 := by
  rw [← h.eq, Nat.mul_add, ← Nat.mul_assoc]; omega
/-- The test says no: the guess is right. -/
theorem Guess.done (h : Guess v1 v0 u u1 q r) (hv : 0 < v1) (h2 : q * v0 ≤ 4294967296 * r + u1) : q = (u * 4294967296 + u1) / (v1 * 4294967296 + v0) := by
  have e := h.mulE
  refine Nat.le_antisymm ?_ h.ge
  rw [Nat.le_div_iff_mul_le (by omega)]
  generalize q * (v1 * 4294967296 + v0) = X at *
  generalize q * v0 = Z at *
  omega
/-- The test says yes: the guess is too large. -/
theorem Guess.step (h : Guess v1 v0 u u1 q r) (hv : 0 < v1) (hu : u < v1 * 4294967296 + v0) (hu1 : u1 < 4294967296) (h2 : 4294967296 ≤ q ∨ 4294967296 * r + u1 < q * v0) : 1 ≤ q ∧ Guess v1 v0 u u1 (q - 1) (r + v1) := by
  have hlt : (u * 4294967296 + u1) / (v1 * 4294967296 + v0) < q := by
    rw [Nat.div_lt_iff_lt_mul (by omega)]
    rcases h2 with h2 | h2
    · have : 4294967296 * (v1 * 4294967296 + v0) ≤ q * (v1 * 4294967296 + v0) := Nat.mul_le_mul_right _ h2
      omega
    · have e := h.mulE
      generalize q * (v1 * 4294967296 + v0) = X at *
      generalize q * v0 = Z at *
      omega
  have h1 : 1 ≤ q := Nat.lt_of_le_of_lt (Nat.zero_le _) hlt
  refine ⟨h1, ?_, Nat.le_sub_one_of_lt hlt⟩
  obtain ⟨q, rfl⟩ : ∃ p, q = p + 1 := ⟨q - 1, by omega⟩
  have := h.eq
  rw [Nat.add_mul] at this
  rw [Nat.add_sub_cancel]
  omega
/-- What is left has grown to a word's half: the guess is right. -/
theorem Guess.full (h : Guess v1 v0 u u1 q r) (hv : 0 < v1) (hu : u < v1 * 4294967296 + v0) (hv0 : v0 < 4294967296) (hr : 4294967296 ≤ r) : q < 4294967296 ∧ q * v0 ≤ 4294967296 * r + u1 := by
  have hq : q < 4294967296 := by
    have e := h.eq
    apply Nat.lt_of_mul_lt_mul_right (a := v1)
    generalize q * v1 = X at *
    omega
  have : q * v0 ≤ 4294967296 * 4294967296 := Nat.mul_le_mul (by omega) (by omega)
  exact ⟨hq, by omega⟩
theorem Guess.bound (h : Guess v1 v0 u u1 q r) (hv : 2147483648 ≤ v1) (hu : u < 18446744073709551616) : q < 8589934592 := by
  have e := h.eq
  have : q * 2147483648 ≤ q * v1 := Nat.mul_le_mul_left _ hv
  generalize q * v1 = X at *
  omega
theorem long_div (U u0 Y : Nat) (hY : 0 < Y) (_h : u0 < 4294967296) :
    (U * 4294967296 + u0) / Y = U / Y * 4294967296 + (U % Y * 4294967296 + u0) / Y ∧ (U * 4294967296 + u0) % Y = (U % Y * 4294967296 + u0) % Y := by
  have e : U * 4294967296 + u0 = (U % Y * 4294967296 + u0) + Y * (U / Y * 4294967296) := by
    have := Nat.div_add_mod U Y
    rw [← Nat.mul_assoc]
    generalize Y * (U / Y) = A at *
    omega
  rw [e, Nat.add_mul_div_left _ _ hY, Nat.add_mul_mod_self_left]
  exact ⟨Nat.add_comm _ _, rfl⟩
/-- both answers, of the parts -/
theorem Laid.answers {hi lo y s u u1 u0 : Nat} (h : Laid hi lo y s u u1 u0) (hy : 0 < y) :
    (u * 4294967296 + u1) / (y * 2 ^ s) * 4294967296 + ((u * 4294967296 + u1) % (y * 2 ^ s) * 4294967296 + u0) / (y * 2 ^ s) = (hi * 18446744073709551616 + lo) / y ∧
    ((u * 4294967296 + u1) % (y * 2 ^ s) * 4294967296 + u0) % (y * 2 ^ s) / 2 ^ s = (hi * 18446744073709551616 + lo) % y := by
  have hp := Nat.two_pow_pos s
  obtain ⟨e1, e2⟩ := long_div (u * 4294967296 + u1) u0 (y * 2 ^ s) (Nat.mul_pos hy hp) h.l0
  rw [← e1, ← e2, h.eq, Nat.mul_div_mul_right _ _ hp, Nat.mul_mod_mul_right, Nat.mul_div_cancel _ hp]
  exact ⟨rfl, rfl⟩
/-- 'u * B + d - q * y' in words -/
theorem rest (A Y q : Nat) (hq : q = A / Y) (hY : 0 < Y) (hY2 : Y < 18446744073709551616) : ((A : Int) - (q : Int) * (Y : Int)) % 18446744073709551616 = ((A % Y : Nat) : Int) := by
  have h := Nat.div_add_mod A Y
  have hl := Nat.mod_lt A hY
  have e : (A : Int) - (q : Int) * (Y : Int) = ((A % Y : Nat) : Int) := by
    subst hq
    have : (A : Int) = (Y : Int) * ((A / Y : Nat) : Int) + ((A % Y : Nat) : Int) := by exact_mod_cast h.symm
    rw [Int.mul_comm ((A / Y : Nat) : Int)]
    omega
  rw [e]
  omega
theorem word_rest (u u1 Q Y : Nat) (hQ : Q = (u * 4294967296 + u1) / Y) (hY : 0 < Y) (hY2 : Y < 18446744073709551616) :
    IntKind.u64.wrap (IntKind.u64.wrap (IntKind.u64.wrap ((u : Int) * 4294967296) + (u1 : Int)) - IntKind.u64.wrap ((Q : Int) * (Y : Int))) = (((u * 4294967296 + u1) % Y : Nat) : Int) := by
  have h := rest (u * 4294967296 + u1) Y Q hQ hY hY2
  rw [← h]
  simp only [IntKind.wrap_u64]
  rw [show ((u * 4294967296 + u1 : Nat) : Int) = (u : Int) * 4294967296 + (u1 : Int) by omega]
  generalize (Q : Int) * (Y : Int) = P
  omega
end DivN
end Go.Proofs.Ytfoncfojljmimaa
