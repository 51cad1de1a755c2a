/- modn.Inv finds what makes 1 of a number modulo m, or tells that nothing does. -/
import Derived.Test.YtfoncfojljmimaaModSub
set_option linter.unusedVariables false
set_option linter.unusedSimpArgs false
namespace Go.Proofs.Ytfoncfojljmimaa
open Go.RowKit DivN NT
set_option maxHeartbeats 1000000 in
theorem inv_any (a m : Int) (a0 : 0 ≤ a) (m0 : 0 ≤ m) (w : World) :
    Calls Try.prog 42 #[.int .u64 a, .int .u64 m] w fun z w' => z = .returned (.tuple #[.int .u64 (invS a.toNat m.toNat : Nat), .bool (hasB a.toNat m.toNat)]) ∧ Drawn w w' := by
  by_cases hm : 2 ≤ m ∧ m ≤ 4611686018427387904
  · obtain ⟨h1, h2⟩ := hm
    have r1 := Int.emod_nonneg a (show m ≠ 0 by omega)
    have r2 := Int.emod_lt_of_pos a (show 0 < m by omega)
    have hM := modulus_of h1 h2
    have hp : Euc a.toNat m.toNat m (a % m) 0 1 := by
      have := Euc.start (a := a.toNat) (m := m.toNat) (by omega)
      rwa [Int.natCast_emod, Int.toNat_of_nonneg a0, Int.toNat_of_nonneg m0] at this
    have HP0 := Lib.hid hp
    have HM := Lib.hid hM
    clear hp hM
    go_enter Try.func42, Try.ntmps42
    go_wp2_with (go_at_call 50; refine (right_yes _ h1 h2 _).mono ?_; rintro e w' ⟨rfl, rfl⟩)
    go_quiet (fail)
    go_wp2_with fail
    go_loopw [6, 7, 8, 9] (fun s6 s7 s8 s9 wr => ∃ b n x i : Int, s6 = .int .u64 b ∧ s7 = .int .u64 n ∧ s8 = .int .u64 x ∧ s9 = .int .u64 i ∧ Euc a.toNat m.toNat b n x i ∧ Drawn w wr) (fun _ s7 _ _ _ => (intOf s7).toNat)
    case atStart => exact ⟨_, _, _, _, rfl, rfl, rfl, rfl, HP0.out, Drawn.of _ _⟩
    case round =>
      obtain ⟨b, n, x, i, rfl, rfl, rfl, rfl, hp, hD⟩ := hrel
      have HP := Lib.hid hp
      obtain ⟨b0, bl, n0, nl, x0, xl, i0, il, _, _, _⟩ := hp
      by_cases hn : 0 < n
      · have hq := HP.out.step HM.out hn
        rw [Int.toNat_of_nonneg m0] at hq
        have HQ := Lib.hid hq
        have q1 : 0 ≤ b / n := Int.ediv_nonneg b0 n0
        have q2 : b / n ≤ b := Int.ediv_le_self n b0
        have q3 := Int.emod_nonneg (b / n) (show m ≠ 0 by omega)
        have q4 := Int.emod_lt_of_pos (b / n) (show 0 < m by omega)
        have q5 := Int.emod_nonneg b (show n ≠ 0 by omega)
        have q6 := Int.emod_lt_of_pos b hn
        clear hq
        go_wp2_with fail
        go_quiet (fail)
        go_wp2_with fail
        refine (times_any ((b / n) % m) i m q3 i0 q4 (by omega) h2 _).mono ?_
        rintro e1 w1 ⟨rfl, hD1⟩
        go_wp2_with fail
        refine (sub_any _ _ m x0 (by omega) m0 _).mono ?_
        rintro e1 w2 ⟨rfl, hD2⟩
        go_wp2_with fail
        go_roundw
        case rel => exact ⟨_, _, _, _, rfl, rfl, rfl, rfl, HQ.out, ((hD.drewN _).trans hD1).trans hD2⟩
        case measure => simp [intOf]; omega
      · obtain rfl : n = 0 := by omega
        by_cases hb : b = 1
        · subst hb
          obtain ⟨hy, he⟩ := HP.out.yes HM.out
          have HY := Lib.hid hy
          have HE := Lib.hid he
          clear hy he
          go_wp2_with fail
          go_ret2
          exact ⟨ret_int_bool HE.out.symm (hasB_yes HY.out).symm, hD⟩
        · have hno := HP.out.no hb
          have HN := Lib.hid hno
          have hb' : ((b : Int) != 1) = true := by rw [bne_iff_ne]; exact hb
          clear hno hb
          go_wp2_with fail
          go_ret2
          exact ⟨ret_int_bool (by rw [invS_no HN.out]; rfl) (hasB_no HN.out).symm, hD⟩
  · have hno : ¬ HasInv a.toNat m.toNat := fun h => modulus_not hm m0 h.1
    have HN := Lib.hid hno
    clear hno
    go_enter Try.func42, Try.ntmps42
    go_wp2_with (go_at_call 50; refine (right_no _ hm _).mono ?_; rintro e w' ⟨rfl, rfl⟩)
    go_ret2
    exact ⟨ret_int_bool (by rw [invS_no HN.out]; rfl) (hasB_no HN.out).symm, Drawn.refl _⟩
end Go.Proofs.Ytfoncfojljmimaa
