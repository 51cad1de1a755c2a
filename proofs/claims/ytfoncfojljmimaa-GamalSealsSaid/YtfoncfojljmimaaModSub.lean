/- modn.Sub computes the difference modulo m. -/
import Derived.Test.YtfoncfojljmimaaModB
set_option linter.unusedVariables false
set_option linter.unusedSimpArgs false
namespace Go.Proofs.Ytfoncfojljmimaa
open Go.RowKit DivN NT
theorem sub_any (a b m : Int) (a0 : 0 ≤ a) (b0 : 0 ≤ b) (m0 : 0 ≤ m) (w : World) :
    Calls Try.prog 51 #[.int .u64 a, .int .u64 b, .int .u64 m] w fun e w' => e = .returned (.int .u64 (subS a.toNat b.toNat m.toNat : Nat)) ∧ Drawn w w' := by
  by_cases hm : 2 ≤ m ∧ m ≤ 4611686018427387904
  · obtain ⟨h1, h2⟩ := hm
    have r1 := Int.emod_nonneg a (show m ≠ 0 by omega)
    have r2 := Int.emod_lt_of_pos a (show 0 < m by omega)
    have r3 := Int.emod_nonneg b (show m ≠ 0 by omega)
    have r4 := Int.emod_lt_of_pos b (show 0 < m by omega)
    go_enter Try.func51, Try.ntmps51
    go_wp2_with (go_at_call 50; refine (right_yes _ h1 h2 _).mono ?_; rintro e w' ⟨rfl, rfl⟩)
    go_quiet (fail)
    go_wp2_with fail
    go_ret
    exact ⟨ret_int (by
      rw [subS_yes (modulus_of h1 h2)]
      obtain ⟨a, rfl⟩ := Int.eq_ofNat_of_zero_le a0
      obtain ⟨b, rfl⟩ := Int.eq_ofNat_of_zero_le b0
      obtain ⟨m, rfl⟩ := Int.eq_ofNat_of_zero_le m0
      simp only [Int.toNat_natCast]
      rw [Int.natCast_emod, Int.ofNat_sub (by have := Nat.mod_lt b (show 0 < m by omega); omega)]
      simp), Drawn.of _ _⟩
  · go_enter Try.func51, Try.ntmps51
    go_wp2_with (go_at_call 50; refine (right_no _ hm _).mono ?_; rintro e w' ⟨rfl, rfl⟩)
    go_ret
    exact ⟨ret_int (by rw [subS_no (modulus_not hm m0)]; rfl), Drawn.refl _⟩
end Go.Proofs.Ytfoncfojljmimaa
