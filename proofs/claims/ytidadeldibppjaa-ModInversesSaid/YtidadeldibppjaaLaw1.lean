/- The walks of the laws of layer 1: each returns true. -/
import Derived.Test.YtidadeldibppjaaRef1
import Derived.RowKit3
import Derived.Outline
set_option linter.unusedVariables false
set_option linter.unusedSimpArgs false
namespace Go.Proofs.Ytidadeldibppjaa
open Go.RowKit DivN NT
theorem Drawn.grown {w w' : World} (h : Drawn w w') : Grown w w' := by
  obtain ⟨n, hn⟩ := h.out
  subst hn
  clear h
  induction n with
  | zero => exact Grown.refl _
  | succ n ih => rw [← World.drew_drewN]; exact Grown.drew ih
theorem inv_3_7 : invS 3 7 = 5 ∧ hasB 3 7 = true := by
  obtain ⟨h, e⟩ := invS_eq (a := 3) (m := 7) (x := 5) ⟨by omega, by omega⟩ (by omega) (show (5 * 3) % 7 = 1 % 7 from rfl)
  exact ⟨e, hasB_yes h⟩
theorem awake1 (w : World) : Calls Try.prog 8 #[] w fun e w' => e = .returned (.bool true) ∧ Drawn w w' := by
  obtain ⟨i1, i2⟩ := inv_3_7
  have m1 : mulS 5 7 11 = 2 := by rw [mulS_yes ⟨by omega, by omega⟩]
  have p1 : powS 2 10 1000 = 24 := by rw [powS_yes ⟨by omega, by omega⟩]
  go_enter Try.func8, Try.ntmps8
  go_wp2_with fail
  refine (inv_any 3 7 (by omega) (by omega) _).mono ?_
  rintro e1 w1 ⟨rfl, hD1⟩
  go_wp2_with fail
  refine (mul_any 5 7 11 (by omega) (by omega) (by omega) _).mono ?_
  rintro e1 w2 ⟨rfl, hD2⟩
  go_wp2_with fail
  refine (pow_any 2 10 1000 (by omega) (by omega) (by omega) (by omega) _).mono ?_
  rintro e1 w3 ⟨rfl, hD3⟩
  go_wp2_with fail
  go_ret
  exact ⟨by simp, (hD1.trans hD2).trans hD3⟩
theorem sums1 (a b m : Int) (a0 : 0 ≤ a) (a1 : a < 18446744073709551616) (b0 : 0 ≤ b) (b1 : b < 18446744073709551616) (m0 : 0 ≤ m) (m1 : m < 18446744073709551616) (w : World) :
    Calls Try.prog 6 #[.int .u64 a, .int .u64 b, .int .u64 m] w fun e w' => e = .returned (.bool true) ∧ Drawn w w' := by
  go_enter Try.func6, Try.ntmps6
  go_wp2_with fail
  refine (awake1 _).mono ?_
  rintro e1 w1 ⟨rfl, hD1⟩
  go_wp2_with fail
  refine (add_any a b m a0 b0 m0 _).mono ?_
  rintro e1 w2 ⟨rfl, hD2⟩
  go_wp2_with fail
  refine (radd_any a b m a0 b0 m0 _).mono ?_
  rintro e1 w3 ⟨rfl, hD3⟩
  go_wp2_with fail
  refine (sub_any a b m a0 b0 m0 _).mono ?_
  rintro e1 w4 ⟨rfl, hD4⟩
  go_wp2_with fail
  refine (rsub_any a b m a0 b0 m0 _).mono ?_
  rintro e1 w5 ⟨rfl, hD5⟩
  go_wp2_with fail
  go_ret
  exact ⟨by simp, (((hD1.trans hD2).trans hD3).trans hD4).trans hD5⟩
theorem products1 (a b m : Int) (a0 : 0 ≤ a) (a1 : a < 18446744073709551616) (b0 : 0 ≤ b) (b1 : b < 18446744073709551616) (m0 : 0 ≤ m) (m1 : m < 18446744073709551616) (w : World) :
    Calls Try.prog 3 #[.int .u64 a, .int .u64 b, .int .u64 m] w fun e w' => e = .returned (.bool true) ∧ Drawn w w' := by
  go_enter Try.func3, Try.ntmps3
  go_wp2_with fail
  refine (awake1 _).mono ?_
  rintro e1 w1 ⟨rfl, hD1⟩
  go_wp2_with fail
  refine (mul_any a b m a0 b0 m0 _).mono ?_
  rintro e1 w2 ⟨rfl, hD2⟩
  go_wp2_with fail
  refine (rmul_any a b m a0 b0 m0 _).mono ?_
  rintro e1 w3 ⟨rfl, rfl⟩
  go_wp2_with fail
  go_ret
  exact ⟨by simp, hD1.trans hD2⟩
theorem powers1 (a b m : Int) (a0 : 0 ≤ a) (a1 : a < 18446744073709551616) (b0 : 0 ≤ b) (b1 : b < 18446744073709551616) (m0 : 0 ≤ m) (m1 : m < 18446744073709551616) (w : World) :
    Calls Try.prog 4 #[.int .u64 a, .int .u64 b, .int .u64 m] w fun e w' => e = .returned (.bool true) ∧ Drawn w w' := by
  go_enter Try.func4, Try.ntmps4
  go_wp2_with fail
  refine (awake1 _).mono ?_
  rintro e1 w1 ⟨rfl, hD1⟩
  go_wp2_with fail
  refine (pow_any a b m a0 b0 b1 m0 _).mono ?_
  rintro e1 w2 ⟨rfl, hD2⟩
  go_wp2_with fail
  refine (rpow_any a b m a0 b0 b1 m0 _).mono ?_
  rintro e1 w3 ⟨rfl, hD3⟩
  go_wp2_with fail
  go_ret
  exact ⟨by simp, (hD1.trans hD2).trans hD3⟩
theorem inverses1 (a m : Int) (a0 : 0 ≤ a) (a1 : a < 18446744073709551616) (m0 : 0 ≤ m) (m1 : m < 18446744073709551616) (w : World) :
    Calls Try.prog 5 #[.int .u64 a, .int .u64 m] w fun e w' => e = .returned (.bool true) ∧ Drawn w w' := by
  by_cases hi : HasInv a.toNat m.toNat
  · obtain ⟨hl, hc⟩ := invS_spec hi
    have hb := hasB_yes hi
    obtain ⟨n, hn⟩ : ∃ n, n = invS a.toNat m.toNat := ⟨_, rfl⟩
    have hm2 := hi.1.1
    have hmul : mulS a.toNat n m.toNat = 1 := by
      rw [mulS_yes hi.1, hn, Nat.mul_comm]
      exact (Cg.one hm2).1 hc
    rw [← hn] at hl hc
    have hn0 : 0 < n := by
      rcases Nat.eq_zero_or_pos n with h | h
      · subst h; rw [Nat.zero_mul] at hc; have := (Cg.one hm2).1 hc; simp at this
      · exact h
    have hl' : (n : Int) < m := by omega
    have hn0' : (0 : Int) < (n : Int) := by omega
    have hn0'' : ((n : Int) == 0) = false := by rw [beq_eq_false_iff_ne]; omega
    have hmul' : ((mulS a.toNat n m.toNat : Int) == 1) = true := by rw [hmul]; rfl
    clear hl hc hm2 hi hmul hn0
    go_enter Try.func5, Try.ntmps5
    go_wp2_with fail
    refine (awake1 _).mono ?_
    rintro e1 w1 ⟨rfl, hD1⟩
    go_wp2_with fail
    refine (inv_any a m a0 m0 _).mono ?_
    rintro e1 w2 ⟨rfl, hD2⟩
    rw [← hn, hb]
    go_wp2_with fail
    refine (rinv_any a m a0 m0 _).mono ?_
    rintro e1 w3 ⟨rfl, hD3⟩
    rw [← hn, hb]
    clear hb hn
    go_wp2_with fail
    refine (mul_any a n m a0 (by omega) m0 _).mono ?_
    rintro e1 w4 ⟨rfl, hD4⟩
    go_wp2_with fail
    go_ret
    exact ⟨by simp [hmul'], ((hD1.trans hD2).trans hD3).trans hD4⟩
  · have hb := hasB_no hi
    have hn := invS_no hi
    clear hi
    go_enter Try.func5, Try.ntmps5
    go_wp2_with fail
    refine (awake1 _).mono ?_
    rintro e1 w1 ⟨rfl, hD1⟩
    go_wp2_with fail
    refine (inv_any a m a0 m0 _).mono ?_
    rintro e1 w2 ⟨rfl, hD2⟩
    rw [hn, hb]
    go_wp2_with fail
    refine (rinv_any a m a0 m0 _).mono ?_
    rintro e1 w3 ⟨rfl, hD3⟩
    rw [hn, hb]
    go_wp2_with fail
    go_ret
    exact ⟨by simp, (hD1.trans hD2).trans hD3⟩
theorem rules_mul {a b c m : Nat} (h : Modulus m) : mulS a (addS b c m) m = addS (mulS a b m) (mulS a c m) m := by
  rw [mulS_yes h, mulS_yes h, mulS_yes h, addS_yes h, addS_yes h]
  have e : Cg m (a * ((b + c) % m)) (a * b % m + a * c % m) := by
    refine ((Cg.refl m a).mul (Cg.mod m (b + c))).trans ?_
    rw [Nat.mul_add]
    exact (Cg.mod m _).symm.add (Cg.mod m _).symm
  exact e
theorem rules_sub {a b m : Nat} (h : Modulus m) : addS (subS a b m) b m = a % m := by
  rw [addS_yes h]
  exact subS_back h
theorem rules_comm {a b m : Nat} : mulS a b m = mulS b a m := by
  unfold mulS; rw [Nat.mul_comm]
theorem rules_pow {a x y m : Nat} (h : Modulus m) : powS a (x + y) m = mulS (powS a x m) (powS a y m) m := by
  rw [powS_yes h, powS_yes h, powS_yes h, mulS_yes h, Nat.pow_add, Nat.mul_mod]
set_option maxHeartbeats 1000000 in
theorem rules1 (a b m : Int) (a0 : 0 ≤ a) (a1 : a < 18446744073709551616) (b0 : 0 ≤ b) (b1 : b < 18446744073709551616) (m0 : 0 ≤ m) (m1 : m < 18446744073709551616) (w : World) :
    Calls Try.prog 7 #[.int .u64 a, .int .u64 b, .int .u64 m] w fun e w' => e = .returned (.bool true) ∧ Drawn w w' := by
  by_cases hm : 2 ≤ m ∧ m ≤ 4611686018427387904
  · obtain ⟨h1, h2⟩ := hm
    have hM := modulus_of h1 h2
    obtain ⟨c, hc⟩ : ∃ c, c = bits .xor .u64 a b := ⟨_, rfl⟩
    have c0 : 0 ≤ c := by rw [hc]; exact bits_lo_u64 _ _ _
    have c1 : c ≤ 18446744073709551615 := by rw [hc]; exact bits_hi_u64 _ _ _
    have k1 : ((mulS a.toNat (addS b.toNat c.toNat m.toNat) m.toNat : Int) != (addS (mulS a.toNat b.toNat m.toNat) (mulS a.toNat c.toNat m.toNat) m.toNat : Int)) = false := by
      rw [rules_mul hM]; simp
    have k2 : ((addS (subS a.toNat b.toNat m.toNat) b.toNat m.toNat : Int) != a % m) = false := by
      rw [rules_sub hM, Int.natCast_emod, Int.toNat_of_nonneg a0, Int.toNat_of_nonneg m0]; simp
    have k3 : ((mulS a.toNat b.toNat m.toNat : Int) != (mulS b.toNat a.toNat m.toNat : Int)) = false := by
      rw [rules_comm]; simp
    have k4 : ((powS a.toNat (b / 4 + c / 4).toNat m.toNat : Int) == (mulS (powS a.toNat (b / 4).toNat m.toNat) (powS a.toNat (c / 4).toNat m.toNat) m.toNat : Int)) = true := by
      rw [show (b / 4 + c / 4).toNat = (b / 4).toNat + (c / 4).toNat by omega, rules_pow hM]; simp
    have hc' := hc.symm
    have K4 := Lib.hid k4
    clear hc hM k4
    go_enter Try.func7, Try.ntmps7
    go_wp2_with fail
    refine (awake1 _).mono ?_
    rintro e1 w1 ⟨rfl, hD1⟩
    go_wp2_with fail
    refine (add_any b c m b0 c0 m0 _).mono ?_
    rintro e1 w2 ⟨rfl, hD2⟩
    go_wp2_with fail
    refine (mul_any a _ m a0 (by omega) m0 _).mono ?_
    rintro e1 w3 ⟨rfl, hD3⟩
    go_wp2_with fail
    refine (mul_any a b m a0 (by omega) m0 _).mono ?_
    rintro e1 w4 ⟨rfl, hD4⟩
    go_wp2_with fail
    refine (mul_any a c m a0 (by omega) m0 _).mono ?_
    rintro e1 w5 ⟨rfl, hD5⟩
    go_wp2_with fail
    refine (add_any _ _ m (by omega) (by omega) m0 _).mono ?_
    rintro e1 w6 ⟨rfl, hD6⟩
    go_wp2_with fail
    go_quiet (first
      | (go_at_call 17; exact quiet_drawn (sub_any a b m a0 b0 m0 _))
      | (go_at_call 15; exact quiet_drawn (add_any _ b m (by omega) b0 m0 _))
      | (go_at_call 9; exact quiet_drawn (mul_any _ _ m (by omega) (by omega) m0 _)))
    go_wp2_with fail
    refine (pow_any a _ m a0 (by omega) (by omega) m0 _).mono ?_
    rintro e1 w7 ⟨rfl, hD7⟩
    go_wp2_with fail
    refine (pow_any a _ m a0 (by omega) (by omega) m0 _).mono ?_
    rintro e1 w8 ⟨rfl, hD8⟩
    go_wp2_with fail
    refine (pow_any a _ m a0 (by omega) (by omega) m0 _).mono ?_
    rintro e1 w9 ⟨rfl, hD9⟩
    go_wp2_with fail
    refine (mul_any _ _ m (by omega) (by omega) m0 _).mono ?_
    rintro e1 w10 ⟨rfl, hD10⟩
    go_wp2_with fail
    go_ret
    exact ⟨ret_bool K4.out, (((((((((hD1.trans hD2).trans hD3).trans hD4).trans hD5).trans hD6).drewN _).trans hD7).trans hD8).trans hD9).trans hD10⟩
  · have hM := modulus_not hm m0
    have k1 : addS a.toNat b.toNat m.toNat = 0 := addS_no hM
    have k2 : subS a.toNat b.toNat m.toNat = 0 := subS_no hM
    have k3 : mulS a.toNat b.toNat m.toNat = 0 := mulS_no hM
    have k4 : powS a.toNat b.toNat m.toNat = 0 := powS_no hM
    have kb : bits .or .u64 0 0 = 0 := by decide
    clear hM
    by_cases h2 : 2 ≤ m
    · have h3 : ¬ m ≤ 4611686018427387904 := fun h => hm ⟨h2, h⟩
      clear hm
      go_enter Try.func7, Try.ntmps7
      go_wp2_with fail
      refine (awake1 _).mono ?_
      rintro e1 w1 ⟨rfl, hD1⟩
      go_wp2_with fail
      refine (add_any a b m a0 b0 m0 _).mono ?_
      rintro e1 w2 ⟨rfl, hD2⟩
      go_wp2_with fail
      refine (sub_any a b m a0 b0 m0 _).mono ?_
      rintro e1 w3 ⟨rfl, hD3⟩
      go_wp2_with fail
      refine (mul_any a b m a0 b0 m0 _).mono ?_
      rintro e1 w4 ⟨rfl, hD4⟩
      go_wp2_with fail
      refine (pow_any a b m a0 b0 b1 m0 _).mono ?_
      rintro e1 w5 ⟨rfl, hD5⟩
      go_wp2_with fail
      go_ret
      exact ⟨by simp [k1, k2, k3, k4, kb], (((hD1.trans hD2).trans hD3).trans hD4).trans hD5⟩
    · clear hm
      go_enter Try.func7, Try.ntmps7
      go_wp2_with fail
      refine (awake1 _).mono ?_
      rintro e1 w1 ⟨rfl, hD1⟩
      go_wp2_with fail
      refine (add_any a b m a0 b0 m0 _).mono ?_
      rintro e1 w2 ⟨rfl, hD2⟩
      go_wp2_with fail
      refine (sub_any a b m a0 b0 m0 _).mono ?_
      rintro e1 w3 ⟨rfl, hD3⟩
      go_wp2_with fail
      refine (mul_any a b m a0 b0 m0 _).mono ?_
      rintro e1 w4 ⟨rfl, hD4⟩
      go_wp2_with fail
      refine (pow_any a b m a0 b0 b1 m0 _).mono ?_
      rintro e1 w5 ⟨rfl, hD5⟩
      go_wp2_with fail
      go_ret
      exact ⟨by simp [k1, k2, k3, k4, kb], (((hD1.trans hD2).trans hD3).trans hD4).trans hD5⟩
end Go.Proofs.Ytidadeldibppjaa
