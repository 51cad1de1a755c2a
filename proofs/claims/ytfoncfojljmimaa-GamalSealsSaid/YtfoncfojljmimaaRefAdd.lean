/- The reference's sum. -/
import Derived.Test.YtfoncfojljmimaaRefB
set_option linter.unusedVariables false
set_option linter.unusedSimpArgs false
namespace Go.Proofs.Ytfoncfojljmimaa
open Go.RowKit DivN NT
theorem radd_any (a b m : Int) (a0 : 0 ≤ a) (b0 : 0 ≤ b) (m0 : 0 ≤ m) (w : World) :
    Calls Try.prog 57 #[.int .u64 a, .int .u64 b, .int .u64 m] w fun e w' => e = .returned (.int .u64 (addS a.toNat b.toNat m.toNat : Nat)) ∧ Drawn w w' := by
  by_cases hm : 2 ≤ m ∧ m ≤ 4611686018427387904
  · obtain ⟨h1, h2⟩ := hm
    have r1 := Int.emod_nonneg a (show m ≠ 0 by omega)
    have r2 := Int.emod_lt_of_pos a (show 0 < m by omega)
    have r3 := Int.emod_nonneg b (show m ≠ 0 by omega)
    have r4 := Int.emod_lt_of_pos b (show 0 < m by omega)
    have e : (addS a.toNat b.toNat m.toNat : Int) = (a % m + b % m) % m := by
      rw [addS_yes (modulus_of h1 h2)]
      obtain ⟨a, rfl⟩ := Int.eq_ofNat_of_zero_le a0
      obtain ⟨b, rfl⟩ := Int.eq_ofNat_of_zero_le b0
      obtain ⟨m, rfl⟩ := Int.eq_ofNat_of_zero_le m0
      simp [Int.add_emod]
    have HE := Lib.hid e
    clear e
    by_cases hc : m ≤ a % m + b % m
    all_goals
      go_enter Try.func57, Try.ntmps57
      go_wp2_with (go_at_call 49; refine (rright_yes _ h1 h2 _).mono ?_; rintro e w' ⟨rfl, rfl⟩)
      go_quiet (fail)
      go_wp2_with fail
      go_ret
      refine ⟨ret_int ?_, Drawn.of _ _⟩
      rw [HE.out]
      first
        | rw [Int.emod_eq_of_lt (a := a % m + b % m) (b := m) (by omega) (by omega)]
        | rw [← Int.emod_eq_of_lt (a := a % m + b % m - m) (b := m) (by omega) (by omega), Int.sub_emod_right]
  · go_enter Try.func57, Try.ntmps57
    go_wp2_with (go_at_call 49; refine (rright_no _ hm _).mono ?_; rintro e w' ⟨rfl, rfl⟩)
    go_ret
    exact ⟨ret_int (by rw [addS_no (modulus_not hm m0)]; rfl), Drawn.refl _⟩
end Go.Proofs.Ytfoncfojljmimaa
