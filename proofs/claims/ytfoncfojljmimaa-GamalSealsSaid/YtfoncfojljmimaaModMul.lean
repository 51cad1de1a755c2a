/- modn.Mul computes the product modulo m. -/
import Derived.Test.YtfoncfojljmimaaModB
set_option linter.unusedVariables false
set_option linter.unusedSimpArgs false
namespace Go.Proofs.Ytfoncfojljmimaa
open Go.RowKit DivN NT
theorem mul_any (a b m : Int) (a0 : 0 ≤ a) (b0 : 0 ≤ b) (m0 : 0 ≤ m) (w : World) :
    Calls Try.prog 43 #[.int .u64 a, .int .u64 b, .int .u64 m] w fun e w' => e = .returned (.int .u64 (mulS a.toNat b.toNat m.toNat : Nat)) ∧ Drawn w w' := by
  by_cases hm : 2 ≤ m ∧ m ≤ 4611686018427387904
  · obtain ⟨h1, h2⟩ := hm
    have r1 := Int.emod_nonneg a (show m ≠ 0 by omega)
    have r2 := Int.emod_lt_of_pos a (show 0 < m by omega)
    have r3 := Int.emod_nonneg b (show m ≠ 0 by omega)
    have r4 := Int.emod_lt_of_pos b (show 0 < m by omega)
    go_enter Try.func43, Try.ntmps43
    go_wp2_with fail
    refine (right_yes _ h1 h2 _).mono ?_
    rintro e w' ⟨rfl, rfl⟩
    go_wp2_with fail
    go_quiet ((go_at_call 52; exact quiet_drawn (times_any (a % m) (b % m) m r1 r3 r2 r4 h2 _)))
    go_wp2_with fail
    go_ret
    exact ⟨ret_int (by
      rw [mulS_yes (modulus_of h1 h2)]
      obtain ⟨a, rfl⟩ := Int.eq_ofNat_of_zero_le a0
      obtain ⟨b, rfl⟩ := Int.eq_ofNat_of_zero_le b0
      obtain ⟨m, rfl⟩ := Int.eq_ofNat_of_zero_le m0
      unfold tm
      rw [tn_mod, tn_mod]
      simp only [Int.toNat_natCast]
      rw [← Nat.mul_mod]), Drawn.of _ _⟩
  · go_enter Try.func43, Try.ntmps43
    go_wp2_with (go_at_call 50; refine (right_no _ hm _).mono ?_; rintro e w' ⟨rfl, rfl⟩)
    go_ret
    exact ⟨ret_int (by rw [mulS_no (modulus_not hm m0)]; rfl), Drawn.refl _⟩
end Go.Proofs.Ytfoncfojljmimaa
