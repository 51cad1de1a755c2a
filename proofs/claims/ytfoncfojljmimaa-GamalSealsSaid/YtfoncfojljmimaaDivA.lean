/- math/bits.Div64 at every high word below the divisor. -/
import Derived.Test.YtfoncfojljmimaaDiv
set_option linter.unusedVariables false
set_option linter.unusedSimpArgs false
namespace Go.Proofs.Ytfoncfojljmimaa
open Go.RowKit DivN
set_option maxRecDepth 100000 in
theorem div64_low (lo y : Nat) (hy0 : 0 < y) (hlo : lo < 18446744073709551616) (hy : y < 18446744073709551616) (w : World) :
    Calls Try.prog 56 #[.int .u64 0, .int .u64 lo, .int .u64 y] w fun e w' => e = .returned (.tuple #[.int .u64 (lo / y : Nat), .int .u64 (lo % y : Nat)]) ∧ Drawn w w' := by
  have h1 : ((y : Int) == 0) = false := by rw [beq_eq_false_iff_ne]; omega
  have h2 : decide ((y : Int) ≤ 0) = false := by simp; omega
  go_enter Try.func56, Try.ntmps56
  go_wp2_with fail
  go_quiet (fail)
  all_goals
    go_wp2_with fail
    go_ret2
    exact ⟨ret_two (by rw [show (lo : Int) / (y : Int) = ((lo / y : Nat) : Int) by simp]; exact wrap_nat _ (Nat.lt_of_le_of_lt (Nat.div_le_self _ _) hlo)) (by simp), Drawn.of _ _⟩
/-- every hi below y -/
theorem div64_any (hi lo y : Nat) (hhi : hi < y) (hlo : lo < 18446744073709551616) (hy : y < 18446744073709551616) (w : World) :
    Calls Try.prog 56 #[.int .u64 hi, .int .u64 lo, .int .u64 y] w fun e w' => e = .returned (.tuple #[.int .u64 ((hi * 18446744073709551616 + lo) / y : Nat), .int .u64 ((hi * 18446744073709551616 + lo) % y : Nat)]) ∧ Drawn w w' := by
  by_cases h : hi = 0
  · subst h
    have := div64_low lo y (by omega) hlo hy w
    simpa using this
  · exact div64 hi lo y hhi hlo hy (by rw [beq_eq_false_iff_ne]; omega) w
end Go.Proofs.Ytfoncfojljmimaa
