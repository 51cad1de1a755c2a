/- modn.right and modn.times: which number is a modulus, and a product below it. -/
import Derived.Test.YtfoncfojljmimaaDivA
import Derived.Test.YtfoncfojljmimaaModS
set_option linter.unusedVariables false
set_option linter.unusedSimpArgs false
namespace Go.Proofs.Ytfoncfojljmimaa
open Go.RowKit DivN NT
theorem tn_mod (a m : Nat) : ((a : Int) % (m : Int)).toNat = a % m := by rw [← Int.natCast_emod]; rfl
theorem modulus_of {m : Int} (h0 : 2 ≤ m) (h1 : m ≤ 4611686018427387904) : Modulus m.toNat := ⟨by omega, by omega⟩
theorem modulus_not {m : Int} (h : ¬ (2 ≤ m ∧ m ≤ 4611686018427387904)) (h0 : 0 ≤ m) : ¬ Modulus m.toNat := fun ⟨h1, h2⟩ => h ⟨by omega, by omega⟩
theorem right_yes (m : Int) (h1 : 2 ≤ m) (h2 : m ≤ 4611686018427387904) (w : World) :
    Calls Try.prog 50 #[.int .u64 m] w fun e w' => e = .returned (.bool true) ∧ w = w' := by
  go_enter Try.func50, Try.ntmps50
  go_wp2_with fail
  go_ret
  exact ⟨by simp [h2], rfl⟩
theorem right_no (m : Int) (h : ¬ (2 ≤ m ∧ m ≤ 4611686018427387904)) (w : World) :
    Calls Try.prog 50 #[.int .u64 m] w fun e w' => e = .returned (.bool false) ∧ w = w' := by
  by_cases h1 : 2 ≤ m
  · have h2 : ¬ m ≤ 4611686018427387904 := fun h2 => h ⟨h1, h2⟩
    clear h
    go_enter Try.func50, Try.ntmps50
    go_wp2_with fail
    go_ret
    exact ⟨by simp [h2], rfl⟩
  · clear h
    go_enter Try.func50, Try.ntmps50
    go_wp2_with fail
    go_ret
    exact ⟨rfl, rfl⟩
theorem mul64 (a b : Int) (a0 : 0 ≤ a) (a1 : a < 18446744073709551616) (b0 : 0 ≤ b) (b1 : b < 18446744073709551616) (w : World) :
    Calls Try.prog 55 #[.int .u64 a, .int .u64 b] w fun e w' => e = .returned (.tuple #[.int .u64 ((a.toNat * b.toNat / 18446744073709551616 : Nat) : Int), .int .u64 ((a.toNat * b.toNat % 18446744073709551616 : Nat) : Int)]) ∧ w = w' := by
  have h := Try.bits_Mul64 a.toNat b.toNat (by omega) (by omega) w
  rw [Int.toNat_of_nonneg a0, Int.toNat_of_nonneg b0] at h
  exact h.mono fun e w' ⟨h1, h2⟩ => ⟨h1, h2.symm⟩
set_option maxRecDepth 100000 in
theorem times_any (a b m : Int) (a0 : 0 ≤ a) (b0 : 0 ≤ b) (ha : a < m) (hb : b < m) (hm : m ≤ 4611686018427387904) (w : World) :
    Calls Try.prog 52 #[.int .u64 a, .int .u64 b, .int .u64 m] w fun e w' => e = .returned (.int .u64 (tm a.toNat b.toNat m.toNat : Nat)) ∧ Drawn w w' := by
  obtain ⟨P, hP⟩ : ∃ P, P = a.toNat * b.toNat := ⟨_, rfl⟩
  have hPl : P / 18446744073709551616 < m.toNat := by
    rw [Nat.div_lt_iff_lt_mul (by omega), hP]
    have := Nat.mul_lt_mul'' (show a.toNat < m.toNat by omega) (show b.toNat < m.toNat by omega)
    have : m.toNat * m.toNat ≤ m.toNat * 18446744073709551616 := Nat.mul_le_mul_left _ (by omega)
    omega
  have HP := Lib.hid hP
  clear hP
  go_enter Try.func52, Try.ntmps52
  go_wp2_with fail
  refine (mul64 a b a0 (by omega) b0 (by omega) _).mono ?_
  rintro e w' ⟨rfl, rfl⟩
  rw [← HP.out]
  obtain ⟨h, hh⟩ : ∃ h, h = P / 18446744073709551616 := ⟨_, rfl⟩
  obtain ⟨l, hl⟩ : ∃ l, l = P % 18446744073709551616 := ⟨_, rfl⟩
  rw [← hh, ← hl]
  rw [← hh] at hPl
  have hd : h * 18446744073709551616 + l = P := by omega
  have hll : l < 18446744073709551616 := by omega
  obtain ⟨M, hM⟩ : ∃ M : Nat, m = M := ⟨m.toNat, by omega⟩
  subst hM
  have HD := Lib.hid hd
  clear hh hl hd
  go_wp2_with fail
  refine (div64_any h l M (by omega) (by omega) (by omega) _).mono ?_
  rintro e w' ⟨rfl, hD⟩
  go_wp2_with fail
  go_ret
  exact ⟨ret_int (by rw [show (h : Int) * 18446744073709551616 + l = (P : Int) by have := HD.out; omega, HP.out]; unfold tm; simp), hD⟩
end Go.Proofs.Ytfoncfojljmimaa
