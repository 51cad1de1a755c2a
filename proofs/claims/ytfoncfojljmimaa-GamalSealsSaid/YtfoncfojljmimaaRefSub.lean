/- The reference's difference. -/
import Derived.Test.YtfoncfojljmimaaRefAdd
set_option linter.unusedVariables false
set_option linter.unusedSimpArgs false
namespace Go.Proofs.Ytfoncfojljmimaa
open Go.RowKit DivN NT
theorem rsub_any (a b m : Int) (a0 : 0 ≤ a) (b0 : 0 ≤ b) (m0 : 0 ≤ m) (w : World) :
    Calls Try.prog 53 #[.int .u64 a, .int .u64 b, .int .u64 m] w fun e w' => e = .returned (.int .u64 (subS a.toNat b.toNat m.toNat : Nat)) ∧ Drawn w w' := by
  by_cases hm : 2 ≤ m ∧ m ≤ 4611686018427387904
  · obtain ⟨h1, h2⟩ := hm
    have r3 := Int.emod_nonneg b (show m ≠ 0 by omega)
    have r4 := Int.emod_lt_of_pos b (show 0 < m by omega)
    have e : addS a.toNat (m - b % m).toNat m.toNat = subS a.toNat b.toNat m.toNat := by
      rw [addS_yes (modulus_of h1 h2), subS_yes (modulus_of h1 h2)]
      obtain ⟨a, rfl⟩ := Int.eq_ofNat_of_zero_le a0
      obtain ⟨b, rfl⟩ := Int.eq_ofNat_of_zero_le b0
      obtain ⟨m, rfl⟩ := Int.eq_ofNat_of_zero_le m0
      have hl := Nat.mod_lt b (show 0 < m by omega)
      have e1 : ((m : Int) - (b : Int) % (m : Int)).toNat = m - b % m := by rw [← Int.natCast_emod]; omega
      simp only [Int.toNat_natCast]
      rw [e1, show a % m + m - b % m = a % m + (m - b % m) by omega, Nat.mod_add_mod]
    have HE := Lib.hid e
    clear e
    go_enter Try.func53, Try.ntmps53
    go_wp2_with (go_at_call 49; refine (rright_yes _ h1 h2 _).mono ?_; rintro e w' ⟨rfl, rfl⟩)
    first | go_quiet ((go_at_call 57; exact quiet_drawn (radd_any a (m - b % m) m a0 (by omega) m0 _))) | (refine (radd_any a (m - b % m) m a0 (by omega) m0 _).mono ?_; rintro e w' ⟨rfl, hD⟩)
    go_wp2_with fail
    go_ret
    exact ⟨ret_int (by rw [← HE.out]), by first | exact Drawn.of _ _ | exact hD⟩
  · go_enter Try.func53, Try.ntmps53
    go_wp2_with (go_at_call 49; refine (rright_no _ hm _).mono ?_; rintro e w' ⟨rfl, rfl⟩)
    go_ret
    exact ⟨ret_int (by rw [subS_no (modulus_not hm m0)]; rfl), Drawn.refl _⟩
end Go.Proofs.Ytfoncfojljmimaa
