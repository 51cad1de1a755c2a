/- The reference's power. -/
import Derived.Test.YtfoncfojljmimaaRefMul
set_option linter.unusedVariables false
set_option linter.unusedSimpArgs false
namespace Go.Proofs.Ytfoncfojljmimaa
open Go.RowKit DivN NT
structure RPowAt (a e m : Nat) (x y r : Int) : Prop where
  x0 : 0 ≤ x
  r0 : 0 ≤ r
  y0 : 0 ≤ y
  yl : y < 18446744073709551616
  eq : Cg m (r.toNat * x.toNat ^ y.toNat) (a ^ e)
theorem RPowAt.odd {a e m : Nat} {x y r : Int} (h : RPowAt a e m x y r) (hM : Modulus m) (hy : y % 2 = 1) : RPowAt a e m (mulS x.toNat x.toNat m : Nat) (y / 2) (mulS r.toNat x.toNat m : Nat) := by
  obtain ⟨x0, r0, y0, yl, eq⟩ := h
  refine ⟨by omega, by omega, by omega, by omega, ?_⟩
  rw [Int.toNat_natCast, Int.toNat_natCast, mulS_yes hM, mulS_yes hM]
  refine Cg.trans ((Cg.mod m _).mul ((Cg.mod m _).pow _)) (Cg.trans ?_ eq)
  have e1 : y.toNat = 1 + 2 * (y / 2).toNat := by omega
  rw [e1, Nat.pow_add, Nat.pow_mul, Nat.pow_one, Nat.mul_assoc, Nat.pow_two]
  exact Cg.refl _ _
theorem RPowAt.even {a e m : Nat} {x y r : Int} (h : RPowAt a e m x y r) (hM : Modulus m) (hy : y % 2 = 0) : RPowAt a e m (mulS x.toNat x.toNat m : Nat) (y / 2) r := by
  obtain ⟨x0, r0, y0, yl, eq⟩ := h
  refine ⟨by omega, r0, by omega, by omega, ?_⟩
  rw [Int.toNat_natCast, mulS_yes hM]
  refine Cg.trans ((Cg.refl m _).mul ((Cg.mod m _).pow _)) (Cg.trans ?_ eq)
  have e1 : y.toNat = 2 * (y / 2).toNat := by omega
  rw [e1, Nat.pow_mul, Nat.pow_two]
  exact Cg.refl _ _
theorem mulS_lt {a b m : Nat} (h : Modulus m) : mulS a b m < m := by rw [mulS_yes h]; exact Nat.mod_lt _ (by have := h.1; omega)
set_option maxHeartbeats 1000000 in
theorem rpow_any (a e m : Int) (a0 : 0 ≤ a) (e0 : 0 ≤ e) (e1 : e < 18446744073709551616) (m0 : 0 ≤ m) (w : World) :
    Calls Try.prog 41 #[.int .u64 a, .int .u64 e, .int .u64 m] w fun z w' => z = .returned (.int .u64 (powS a.toNat e.toNat m.toNat : Nat)) ∧ Drawn w w' := by
  by_cases hm : 2 ≤ m ∧ m ≤ 4611686018427387904
  · obtain ⟨h1, h2⟩ := hm
    have hM := modulus_of h1 h2
    have r1 := Int.emod_nonneg a (show m ≠ 0 by omega)
    have hp : RPowAt a.toNat e.toNat m.toNat (a % m) e 1 := by
      refine ⟨r1, by omega, e0, e1, ?_⟩
      obtain ⟨a, rfl⟩ := Int.eq_ofNat_of_zero_le a0
      obtain ⟨m, rfl⟩ := Int.eq_ofNat_of_zero_le m0
      rw [tn_mod]
      simp only [Int.toNat_natCast, Int.toNat_one, Nat.one_mul]
      exact (Cg.mod m a).pow _
    have HP0 := Lib.hid hp
    have HM := Lib.hid hM
    clear hp hM
    go_enter Try.func41, Try.ntmps41
    go_wp2_with (go_at_call 49; refine (rright_yes _ h1 h2 _).mono ?_; rintro e w' ⟨rfl, rfl⟩)
    go_loopw [1, 7, 8] (fun s1 s7 s8 wr => ∃ x y r : Int, s1 = .int .u64 y ∧ s7 = .int .u64 r ∧ s8 = .int .u64 x ∧ RPowAt a.toNat e.toNat m.toNat x y r ∧ Drawn w wr) (fun s1 _ _ _ => (intOf s1).toNat)
    case atStart => exact ⟨_, _, _, rfl, rfl, rfl, HP0, Drawn.refl _⟩
    case round =>
      obtain ⟨x, y, r, rfl, rfl, rfl, hp, hD⟩ := hrel
      have HP := Lib.hid hp
      obtain ⟨x0, r0, y0, yl, _⟩ := hp
      by_cases hy : 0 < y
      · by_cases ho : y % 2 = 1
        · have hq := HP.out.odd HM.out ho
          have HQ := Lib.hid hq
          have ho' : ((y % 2 : Int) == 1) = true := by rw [ho]; rfl
          clear hq ho
          go_wp2_with fail
          refine (rmul_any r x m r0 x0 m0 _).mono ?_
          rintro z1 w1 ⟨rfl, rfl⟩
          go_wp2_with fail
          refine (rmul_any x x m x0 x0 m0 _).mono ?_
          rintro z1 w2 ⟨rfl, rfl⟩
          go_wp2_with fail
          go_roundw
          case rel => exact ⟨_, _, _, rfl, rfl, rfl, HQ.out, hD⟩
          case measure => simp [intOf]; omega
        · have hq := HP.out.even HM.out (by omega)
          have HQ := Lib.hid hq
          have ho' : ((y % 2 : Int) == 1) = false := by rw [beq_eq_false_iff_ne]; exact ho
          clear hq ho
          go_wp2_with fail
          refine (rmul_any x x m x0 x0 m0 _).mono ?_
          rintro z1 w2 ⟨rfl, rfl⟩
          go_wp2_with fail
          go_roundw
          case rel => exact ⟨_, _, _, rfl, rfl, rfl, HQ.out, hD⟩
          case measure => simp [intOf]; omega
      · obtain rfl : y = 0 := by omega
        have hq : r % m = (powS a.toNat e.toNat m.toNat : Nat) := by
          have h := HP.out.eq
          simp only [Int.toNat_zero, Nat.pow_zero, Nat.mul_one] at h
          unfold Cg at h
          rw [powS_yes HM.out, ← h, Int.natCast_emod, Int.toNat_of_nonneg r0, Int.toNat_of_nonneg m0]
        have HQ := Lib.hid hq
        clear hq
        go_wp2_with fail
        go_ret
        exact ⟨ret_int HQ.out, hD⟩
  · go_enter Try.func41, Try.ntmps41
    go_wp2_with (go_at_call 49; refine (rright_no _ hm _).mono ?_; rintro e w' ⟨rfl, rfl⟩)
    go_ret
    exact ⟨ret_int (by rw [powS_no (modulus_not hm m0)]; rfl), Drawn.refl _⟩
end Go.Proofs.Ytfoncfojljmimaa
