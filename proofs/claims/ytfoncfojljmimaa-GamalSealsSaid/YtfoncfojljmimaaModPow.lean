/- modn.Pow computes the power modulo m. -/
import Derived.Test.YtfoncfojljmimaaModB
set_option linter.unusedVariables false
set_option linter.unusedSimpArgs false
namespace Go.Proofs.Ytfoncfojljmimaa
open Go.RowKit DivN NT
/-- what stands of the power when e is left: r times a to the e -/
structure PowAt (a e m : Nat) (x y r : Int) : Prop where
  x0 : 0 ≤ x
  xl : x < m
  r0 : 0 ≤ r
  rl : r < m
  y0 : 0 ≤ y
  yl : y < 18446744073709551616
  eq : Cg m (r.toNat * x.toNat ^ y.toNat) (a ^ e)
theorem PowAt.odd {a e m : Nat} {x y r : Int} (h : PowAt a e m x y r) (hm : 0 < m) (hy : y % 2 = 1) : PowAt a e m (tm x.toNat x.toNat m : Nat) (y / 2) (tm r.toNat x.toNat m : Nat) := by
  unfold tm
  obtain ⟨x0, xl, r0, rl, y0, yl, eq⟩ := h
  have l1 := Nat.mod_lt (x.toNat * x.toNat) hm
  have l2 := Nat.mod_lt (r.toNat * x.toNat) hm
  refine ⟨by omega, by omega, by omega, by omega, by omega, by omega, ?_⟩
  rw [Int.toNat_natCast, Int.toNat_natCast]
  refine Cg.trans ((Cg.mod m _).mul ((Cg.mod m _).pow _)) (Cg.trans ?_ eq)
  have e1 : y.toNat = 1 + 2 * (y / 2).toNat := by omega
  rw [e1, Nat.pow_add, Nat.pow_mul, Nat.pow_one, Nat.mul_assoc, Nat.pow_two]
  exact Cg.refl _ _
theorem PowAt.even {a e m : Nat} {x y r : Int} (h : PowAt a e m x y r) (hm : 0 < m) (hy : y % 2 = 0) : PowAt a e m (tm x.toNat x.toNat m : Nat) (y / 2) r := by
  unfold tm
  obtain ⟨x0, xl, r0, rl, y0, yl, eq⟩ := h
  have l1 := Nat.mod_lt (x.toNat * x.toNat) hm
  refine ⟨by omega, by omega, by omega, by omega, by omega, by omega, ?_⟩
  rw [Int.toNat_natCast]
  refine Cg.trans ((Cg.refl m _).mul ((Cg.mod m _).pow _)) (Cg.trans ?_ eq)
  have e1 : y.toNat = 2 * (y / 2).toNat := by omega
  rw [e1, Nat.pow_mul, Nat.pow_two]
  exact Cg.refl _ _
theorem PowAt.done {a e m : Nat} {x r : Int} (h : PowAt a e m x 0 r) : r = ((a ^ e % m : Nat) : Int) := by
  obtain ⟨x0, xl, r0, rl, y0, yl, eq⟩ := h
  simp only [Int.toNat_zero, Nat.pow_zero, Nat.mul_one] at eq
  unfold Cg at eq
  rw [Nat.mod_eq_of_lt (by omega)] at eq
  omega
set_option maxHeartbeats 1000000 in
theorem pow_any (a e m : Int) (a0 : 0 ≤ a) (e0 : 0 ≤ e) (e1 : e < 18446744073709551616) (m0 : 0 ≤ m) (w : World) :
    Calls Try.prog 44 #[.int .u64 a, .int .u64 e, .int .u64 m] w fun z w' => z = .returned (.int .u64 (powS a.toNat e.toNat m.toNat : Nat)) ∧ Drawn w w' := by
  by_cases hm : 2 ≤ m ∧ m ≤ 4611686018427387904
  · obtain ⟨h1, h2⟩ := hm
    have r1 := Int.emod_nonneg a (show m ≠ 0 by omega)
    have r2 := Int.emod_lt_of_pos a (show 0 < m by omega)
    have hp : PowAt a.toNat e.toNat m.toNat (a % m) e 1 := by
      refine ⟨r1, by omega, by omega, by omega, e0, e1, ?_⟩
      obtain ⟨a, rfl⟩ := Int.eq_ofNat_of_zero_le a0
      obtain ⟨m, rfl⟩ := Int.eq_ofNat_of_zero_le m0
      rw [tn_mod]
      simp only [Int.toNat_natCast, Int.toNat_one, Nat.one_mul]
      exact (Cg.mod m a).pow _
    go_enter Try.func44, Try.ntmps44
    go_wp2_with (go_at_call 50; refine (right_yes _ h1 h2 _).mono ?_; rintro e w' ⟨rfl, rfl⟩)
    have HP0 := Lib.hid hp
    clear hp
    go_loopw [0, 1, 7] (fun s0 s1 s7 wr => ∃ x y r : Int, s0 = .int .u64 x ∧ s1 = .int .u64 y ∧ s7 = .int .u64 r ∧ PowAt a.toNat e.toNat m.toNat x y r ∧ Drawn w wr) (fun _ s1 _ _ => (intOf s1).toNat)
    case atStart => exact ⟨_, _, _, rfl, rfl, rfl, HP0, Drawn.refl _⟩
    case round =>
      obtain ⟨x, y, r, rfl, rfl, rfl, hp, hD⟩ := hrel
      have HP := Lib.hid hp
      obtain ⟨x0, xl, r0, rl, y0, yl, _⟩ := hp
      have xl' : x < m := by omega
      have rl' : r < m := by omega
      have hb : bits .and .u64 y 1 = y % 2 := by
        rw [u64_and y 1 y0 yl (by omega) (by omega)]
        have := Nat.and_one_is_mod y.toNat
        simp only [Int.toNat_one]
        rw [this]
        omega
      by_cases hy : 0 < y
      · by_cases ho : y % 2 = 1
        · have hq := HP.out.odd (by omega) ho
          have HQ := Lib.hid hq
          have ho' : ((y % 2 : Int) == 1) = true := by rw [ho]; rfl
          clear hq ho
          go_wp2_with fail
          refine (times_any r x m r0 x0 rl' xl' h2 _).mono ?_
          rintro e1 w1 ⟨rfl, hD1⟩
          go_wp2_with fail
          refine (times_any x x m x0 x0 xl' xl' h2 _).mono ?_
          rintro e1 w2 ⟨rfl, hD2⟩
          go_wp2_with fail
          go_roundw
          case rel => exact ⟨_, _, _, rfl, rfl, rfl, HQ.out, (hD.trans hD1).trans hD2⟩
          case measure => simp [intOf]; omega
        · have hq := HP.out.even (by omega) (by omega)
          have HQ := Lib.hid hq
          have ho' : ((y % 2 : Int) == 1) = false := by rw [beq_eq_false_iff_ne]; exact ho
          clear hq ho
          go_wp2_with fail
          refine (times_any x x m x0 x0 xl' xl' h2 _).mono ?_
          rintro e1 w2 ⟨rfl, hD2⟩
          go_wp2_with fail
          go_roundw
          case rel => exact ⟨_, _, _, rfl, rfl, rfl, HQ.out, hD.trans hD2⟩
          case measure => simp [intOf]; omega
      · obtain rfl : y = 0 := by omega
        have hq := HP.out.done
        have HQ := Lib.hid hq
        clear hq hb
        go_wp2_with fail
        go_ret
        exact ⟨ret_int (by rw [powS_yes (modulus_of h1 h2)]; exact HQ.out), hD⟩
  · go_enter Try.func44, Try.ntmps44
    go_wp2_with (go_at_call 50; refine (right_no _ hm _).mono ?_; rintro e w' ⟨rfl, rfl⟩)
    go_ret
    exact ⟨ret_int (by rw [powS_no (modulus_not hm m0)]; rfl), Drawn.refl _⟩
end Go.Proofs.Ytfoncfojljmimaa
