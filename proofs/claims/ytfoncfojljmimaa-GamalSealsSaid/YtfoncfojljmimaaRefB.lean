/- The reference's right: which number is a modulus. -/
import Derived.Test.YtfoncfojljmimaaModB
set_option linter.unusedVariables false
set_option linter.unusedSimpArgs false
namespace Go.Proofs.Ytfoncfojljmimaa
open Go.RowKit DivN NT
theorem rright_yes (m : Int) (h1 : 2 ≤ m) (h2 : m ≤ 4611686018427387904) (w : World) :
    Calls Try.prog 49 #[.int .u64 m] w fun e w' => e = .returned (.bool true) ∧ w = w' := by
  go_enter Try.func49, Try.ntmps49
  go_wp2_with fail
  go_ret
  exact ⟨by simp [h2], rfl⟩
theorem rright_no (m : Int) (h : ¬ (2 ≤ m ∧ m ≤ 4611686018427387904)) (w : World) :
    Calls Try.prog 49 #[.int .u64 m] w fun e w' => e = .returned (.bool false) ∧ w = w' := by
  by_cases h1 : 2 ≤ m
  · have h2 : ¬ m ≤ 4611686018427387904 := fun h2 => h ⟨h1, h2⟩
    clear h
    go_enter Try.func49, Try.ntmps49
    go_wp2_with fail
    go_ret
    exact ⟨by simp [h2], rfl⟩
  · clear h
    go_enter Try.func49, Try.ntmps49
    go_wp2_with fail
    go_ret
    exact ⟨rfl, rfl⟩
end Go.Proofs.Ytfoncfojljmimaa
