/- The functions of package modn compute what ModS says: sums, differences, products, powers. -/
import Derived.Test.YtidadeldibppjaaDivA
import Derived.Test.YtidadeldibppjaaModS
import Derived.Outline
set_option linter.unusedVariables false
set_option linter.unusedSimpArgs false
namespace Go.Proofs.Ytidadeldibppjaa
open Go.RowKit DivN NT
theorem tn_mod (a m : Nat) : ((a : Int) % (m : Int)).toNat = a % m := by rw [← Int.natCast_emod]; rfl
theorem modulus_of {m : Int} (h0 : 2 ≤ m) (h1 : m ≤ 4611686018427387904) : Modulus m.toNat := ⟨by omega, by omega⟩
theorem modulus_not {m : Int} (h : ¬ (2 ≤ m ∧ m ≤ 4611686018427387904)) (h0 : 0 ≤ m) : ¬ Modulus m.toNat := fun ⟨h1, h2⟩ => h ⟨by omega, by omega⟩
theorem right_yes (m : Int) (h1 : 2 ≤ m) (h2 : m ≤ 4611686018427387904) (w : World) :
    Calls Try.prog 19 #[.int .u64 m] w fun e w' => e = .returned (.bool true) ∧ w = w' := by
  go_enter Try.func19, Try.ntmps19
  go_wp2_with fail
  go_ret
  exact ⟨by simp [h2], rfl⟩
theorem right_no (m : Int) (h : ¬ (2 ≤ m ∧ m ≤ 4611686018427387904)) (w : World) :
    Calls Try.prog 19 #[.int .u64 m] w fun e w' => e = .returned (.bool false) ∧ w = w' := by
  by_cases h1 : 2 ≤ m
  · have h2 : ¬ m ≤ 4611686018427387904 := fun h2 => h ⟨h1, h2⟩
    clear h
    go_enter Try.func19, Try.ntmps19
    go_wp2_with fail
    go_ret
    exact ⟨by simp [h2], rfl⟩
  · clear h
    go_enter Try.func19, Try.ntmps19
    go_wp2_with fail
    go_ret
    exact ⟨rfl, rfl⟩
theorem mul64 (a b : Int) (a0 : 0 ≤ a) (a1 : a < 18446744073709551616) (b0 : 0 ≤ b) (b1 : b < 18446744073709551616) (w : World) :
    Calls Try.prog 22 #[.int .u64 a, .int .u64 b] w fun e w' => e = .returned (.tuple #[.int .u64 ((a.toNat * b.toNat / 18446744073709551616 : Nat) : Int), .int .u64 ((a.toNat * b.toNat % 18446744073709551616 : Nat) : Int)]) ∧ w = w' := by
  have h := Try.bits_Mul64 a.toNat b.toNat (by omega) (by omega) w
  rw [Int.toNat_of_nonneg a0, Int.toNat_of_nonneg b0] at h
  exact h.mono fun e w' ⟨h1, h2⟩ => ⟨h1, h2.symm⟩
set_option maxRecDepth 100000 in
theorem times_any (a b m : Int) (a0 : 0 ≤ a) (b0 : 0 ≤ b) (ha : a < m) (hb : b < m) (hm : m ≤ 4611686018427387904) (w : World) :
    Calls Try.prog 20 #[.int .u64 a, .int .u64 b, .int .u64 m] w fun e w' => e = .returned (.int .u64 (tm a.toNat b.toNat m.toNat : Nat)) ∧ Drawn w w' := by
  obtain ⟨P, hP⟩ : ∃ P, P = a.toNat * b.toNat := ⟨_, rfl⟩
  have hPl : P / 18446744073709551616 < m.toNat := by
    rw [Nat.div_lt_iff_lt_mul (by omega), hP]
    have := Nat.mul_lt_mul'' (show a.toNat < m.toNat by omega) (show b.toNat < m.toNat by omega)
    have : m.toNat * m.toNat ≤ m.toNat * 18446744073709551616 := Nat.mul_le_mul_left _ (by omega)
    omega
  have HP := Lib.hid hP
  clear hP
  go_enter Try.func20, Try.ntmps20
  go_wp2_with fail
  refine (mul64 a b a0 (by omega) b0 (by omega) _).mono ?_
  rintro e w' ⟨rfl, rfl⟩
  rw [← HP.out]
  obtain ⟨h, hh⟩ : ∃ h, h = P / 18446744073709551616 := ⟨_, rfl⟩
  obtain ⟨l, hl⟩ : ∃ l, l = P % 18446744073709551616 := ⟨_, rfl⟩
  rw [← hh, ← hl]
  rw [← hh] at hPl
  have hd : h * 18446744073709551616 + l = P := by omega
  have hll : l < 18446744073709551616 := by omega
  obtain ⟨M, hM⟩ : ∃ M : Nat, m = M := ⟨m.toNat, by omega⟩
  subst hM
  have HD := Lib.hid hd
  clear hh hl hd
  go_wp2_with fail
  refine (div64_any h l M (by omega) (by omega) (by omega) _).mono ?_
  rintro e w' ⟨rfl, hD⟩
  go_wp2_with fail
  go_ret
  exact ⟨ret_int (by rw [show (h : Int) * 18446744073709551616 + l = (P : Int) by have := HD.out; omega, HP.out]; unfold tm; simp), hD⟩
theorem add_any (a b m : Int) (a0 : 0 ≤ a) (b0 : 0 ≤ b) (m0 : 0 ≤ m) (w : World) :
    Calls Try.prog 15 #[.int .u64 a, .int .u64 b, .int .u64 m] w fun e w' => e = .returned (.int .u64 (addS a.toNat b.toNat m.toNat : Nat)) ∧ Drawn w w' := by
  by_cases hm : 2 ≤ m ∧ m ≤ 4611686018427387904
  · obtain ⟨h1, h2⟩ := hm
    have r1 := Int.emod_nonneg a (show m ≠ 0 by omega)
    have r2 := Int.emod_lt_of_pos a (show 0 < m by omega)
    have r3 := Int.emod_nonneg b (show m ≠ 0 by omega)
    have r4 := Int.emod_lt_of_pos b (show 0 < m by omega)
    go_enter Try.func15, Try.ntmps15
    go_wp2_with (go_at_call 19; refine (right_yes _ h1 h2 _).mono ?_; rintro e w' ⟨rfl, rfl⟩)
    go_quiet (fail)
    go_wp2_with fail
    go_ret
    exact ⟨ret_int (by
      rw [addS_yes (modulus_of h1 h2)]
      obtain ⟨a, rfl⟩ := Int.eq_ofNat_of_zero_le a0
      obtain ⟨b, rfl⟩ := Int.eq_ofNat_of_zero_le b0
      obtain ⟨m, rfl⟩ := Int.eq_ofNat_of_zero_le m0
      simp [Int.add_emod]), Drawn.of _ _⟩
  · go_enter Try.func15, Try.ntmps15
    go_wp2_with (go_at_call 19; refine (right_no _ hm _).mono ?_; rintro e w' ⟨rfl, rfl⟩)
    go_ret
    exact ⟨ret_int (by rw [addS_no (modulus_not hm m0)]; rfl), Drawn.refl _⟩
theorem sub_any (a b m : Int) (a0 : 0 ≤ a) (b0 : 0 ≤ b) (m0 : 0 ≤ m) (w : World) :
    Calls Try.prog 17 #[.int .u64 a, .int .u64 b, .int .u64 m] w fun e w' => e = .returned (.int .u64 (subS a.toNat b.toNat m.toNat : Nat)) ∧ Drawn w w' := by
  by_cases hm : 2 ≤ m ∧ m ≤ 4611686018427387904
  · obtain ⟨h1, h2⟩ := hm
    have r1 := Int.emod_nonneg a (show m ≠ 0 by omega)
    have r2 := Int.emod_lt_of_pos a (show 0 < m by omega)
    have r3 := Int.emod_nonneg b (show m ≠ 0 by omega)
    have r4 := Int.emod_lt_of_pos b (show 0 < m by omega)
    go_enter Try.func17, Try.ntmps17
    go_wp2_with (go_at_call 19; refine (right_yes _ h1 h2 _).mono ?_; rintro e w' ⟨rfl, rfl⟩)
    go_quiet (fail)
    go_wp2_with fail
    go_ret
    exact ⟨ret_int (by
      rw [subS_yes (modulus_of h1 h2)]
      obtain ⟨a, rfl⟩ := Int.eq_ofNat_of_zero_le a0
      obtain ⟨b, rfl⟩ := Int.eq_ofNat_of_zero_le b0
      obtain ⟨m, rfl⟩ := Int.eq_ofNat_of_zero_le m0
      simp only [Int.toNat_natCast]
      rw [Int.natCast_emod, Int.ofNat_sub (by have := Nat.mod_lt b (show 0 < m by omega); omega)]
      simp), Drawn.of _ _⟩
  · go_enter Try.func17, Try.ntmps17
    go_wp2_with (go_at_call 19; refine (right_no _ hm _).mono ?_; rintro e w' ⟨rfl, rfl⟩)
    go_ret
    exact ⟨ret_int (by rw [subS_no (modulus_not hm m0)]; rfl), Drawn.refl _⟩
theorem mul_any (a b m : Int) (a0 : 0 ≤ a) (b0 : 0 ≤ b) (m0 : 0 ≤ m) (w : World) :
    Calls Try.prog 9 #[.int .u64 a, .int .u64 b, .int .u64 m] w fun e w' => e = .returned (.int .u64 (mulS a.toNat b.toNat m.toNat : Nat)) ∧ Drawn w w' := by
  by_cases hm : 2 ≤ m ∧ m ≤ 4611686018427387904
  · obtain ⟨h1, h2⟩ := hm
    have r1 := Int.emod_nonneg a (show m ≠ 0 by omega)
    have r2 := Int.emod_lt_of_pos a (show 0 < m by omega)
    have r3 := Int.emod_nonneg b (show m ≠ 0 by omega)
    have r4 := Int.emod_lt_of_pos b (show 0 < m by omega)
    go_enter Try.func9, Try.ntmps9
    go_wp2_with fail
    refine (right_yes _ h1 h2 _).mono ?_
    rintro e w' ⟨rfl, rfl⟩
    go_wp2_with fail
    go_quiet ((go_at_call 20; exact quiet_drawn (times_any (a % m) (b % m) m r1 r3 r2 r4 h2 _)))
    go_wp2_with fail
    go_ret
    exact ⟨ret_int (by
      rw [mulS_yes (modulus_of h1 h2)]
      obtain ⟨a, rfl⟩ := Int.eq_ofNat_of_zero_le a0
      obtain ⟨b, rfl⟩ := Int.eq_ofNat_of_zero_le b0
      obtain ⟨m, rfl⟩ := Int.eq_ofNat_of_zero_le m0
      unfold tm
      rw [tn_mod, tn_mod]
      simp only [Int.toNat_natCast]
      rw [← Nat.mul_mod]), Drawn.of _ _⟩
  · go_enter Try.func9, Try.ntmps9
    go_wp2_with (go_at_call 19; refine (right_no _ hm _).mono ?_; rintro e w' ⟨rfl, rfl⟩)
    go_ret
    exact ⟨ret_int (by rw [mulS_no (modulus_not hm m0)]; rfl), Drawn.refl _⟩
/-- what stands of the power when e is left: r times a to the e -/
structure PowAt (a e m : Nat) (x y r : Int) : Prop where
  x0 : 0 ≤ x
  xl : x < m
  r0 : 0 ≤ r
  rl : r < m
  y0 : 0 ≤ y
  yl : y < 18446744073709551616
  eq : Cg m (r.toNat * x.toNat ^ y.toNat) (a ^ e)
theorem PowAt.odd {a e m : Nat} {x y r : Int} (h : PowAt a e m x y r) (hm : 0 < m) (hy : y % 2 = 1) : PowAt a e m (tm x.toNat x.toNat m : Nat) (y / 2) (tm r.toNat x.toNat m : Nat) := by
  unfold tm
  obtain ⟨x0, xl, r0, rl, y0, yl, eq⟩ := h
  have l1 := Nat.mod_lt (x.toNat * x.toNat) hm
  have l2 := Nat.mod_lt (r.toNat * x.toNat) hm
  refine ⟨by omega, by omega, by omega, by omega, by omega, by omega, ?_⟩
  rw [Int.toNat_natCast, Int.toNat_natCast]
  refine Cg.trans ((Cg.mod m _).mul ((Cg.mod m _).pow _)) (Cg.trans ?_ eq)
  have e1 : y.toNat = 1 + 2 * (y / 2).toNat := by omega
  rw [e1, Nat.pow_add, Nat.pow_mul, Nat.pow_one, Nat.mul_assoc, Nat.pow_two]
  exact Cg.refl _ _
theorem PowAt.even {a e m : Nat} {x y r : Int} (h : PowAt a e m x y r) (hm : 0 < m) (hy : y % 2 = 0) : PowAt a e m (tm x.toNat x.toNat m : Nat) (y / 2) r := by
  unfold tm
  obtain ⟨x0, xl, r0, rl, y0, yl, eq⟩ := h
  have l1 := Nat.mod_lt (x.toNat * x.toNat) hm
  refine ⟨by omega, by omega, by omega, by omega, by omega, by omega, ?_⟩
  rw [Int.toNat_natCast]
  refine Cg.trans ((Cg.refl m _).mul ((Cg.mod m _).pow _)) (Cg.trans ?_ eq)
  have e1 : y.toNat = 2 * (y / 2).toNat := by omega
  rw [e1, Nat.pow_mul, Nat.pow_two]
  exact Cg.refl _ _
theorem PowAt.done {a e m : Nat} {x r : Int} (h : PowAt a e m x 0 r) : r = ((a ^ e % m : Nat) : Int) := by
  obtain ⟨x0, xl, r0, rl, y0, yl, eq⟩ := h
  simp only [Int.toNat_zero, Nat.pow_zero, Nat.mul_one] at eq
  unfold Cg at eq
  rw [Nat.mod_eq_of_lt (by omega)] at eq
  omega
set_option maxHeartbeats 1000000 in
theorem pow_any (a e m : Int) (a0 : 0 ≤ a) (e0 : 0 ≤ e) (e1 : e < 18446744073709551616) (m0 : 0 ≤ m) (w : World) :
    Calls Try.prog 11 #[.int .u64 a, .int .u64 e, .int .u64 m] w fun z w' => z = .returned (.int .u64 (powS a.toNat e.toNat m.toNat : Nat)) ∧ Drawn w w' := by
  by_cases hm : 2 ≤ m ∧ m ≤ 4611686018427387904
  · obtain ⟨h1, h2⟩ := hm
    have r1 := Int.emod_nonneg a (show m ≠ 0 by omega)
    have r2 := Int.emod_lt_of_pos a (show 0 < m by omega)
    have hp : PowAt a.toNat e.toNat m.toNat (a % m) e 1 := by
      refine ⟨r1, by omega, by omega, by omega, e0, e1, ?_⟩
      obtain ⟨a, rfl⟩ := Int.eq_ofNat_of_zero_le a0
      obtain ⟨m, rfl⟩ := Int.eq_ofNat_of_zero_le m0
      rw [tn_mod]
      simp only [Int.toNat_natCast, Int.toNat_one, Nat.one_mul]
      exact (Cg.mod m a).pow _
    go_enter Try.func11, Try.ntmps11
    go_wp2_with (go_at_call 19; refine (right_yes _ h1 h2 _).mono ?_; rintro e w' ⟨rfl, rfl⟩)
    have HP0 := Lib.hid hp
    clear hp
    go_loopw [0, 1, 7] (fun s0 s1 s7 wr => ∃ x y r : Int, s0 = .int .u64 x ∧ s1 = .int .u64 y ∧ s7 = .int .u64 r ∧ PowAt a.toNat e.toNat m.toNat x y r ∧ Drawn w wr) (fun _ s1 _ _ => (intOf s1).toNat)
    case atStart => exact ⟨_, _, _, rfl, rfl, rfl, HP0, Drawn.refl _⟩
    case round =>
      obtain ⟨x, y, r, rfl, rfl, rfl, hp, hD⟩ := hrel
      have HP := Lib.hid hp
      obtain ⟨x0, xl, r0, rl, y0, yl, _⟩ := hp
      have xl' : x < m := by omega
      have rl' : r < m := by omega
      have hb : bits .and .u64 y 1 = y % 2 := by
        rw [u64_and y 1 y0 yl (by omega) (by omega)]
        have := Nat.and_one_is_mod y.toNat
        simp only [Int.toNat_one]
        rw [this]
        omega
      by_cases hy : 0 < y
      · by_cases ho : y % 2 = 1
        · have hq := HP.out.odd (by omega) ho
          have HQ := Lib.hid hq
          have ho' : ((y % 2 : Int) == 1) = true := by rw [ho]; rfl
          clear hq ho
          go_wp2_with fail
          refine (times_any r x m r0 x0 rl' xl' h2 _).mono ?_
          rintro e1 w1 ⟨rfl, hD1⟩
          go_wp2_with fail
          refine (times_any x x m x0 x0 xl' xl' h2 _).mono ?_
          rintro e1 w2 ⟨rfl, hD2⟩
          go_wp2_with fail
          go_roundw
          case rel => exact ⟨_, _, _, rfl, rfl, rfl, HQ.out, (hD.trans hD1).trans hD2⟩
          case measure => simp [intOf]; omega
        · have hq := HP.out.even (by omega) (by omega)
          have HQ := Lib.hid hq
          have ho' : ((y % 2 : Int) == 1) = false := by rw [beq_eq_false_iff_ne]; exact ho
          clear hq ho
          go_wp2_with fail
          refine (times_any x x m x0 x0 xl' xl' h2 _).mono ?_
          rintro e1 w2 ⟨rfl, hD2⟩
          go_wp2_with fail
          go_roundw
          case rel => exact ⟨_, _, _, rfl, rfl, rfl, HQ.out, hD.trans hD2⟩
          case measure => simp [intOf]; omega
      · obtain rfl : y = 0 := by omega
        have hq := HP.out.done
        have HQ := Lib.hid hq
        clear hq hb
        go_wp2_with fail
        go_ret
        exact ⟨ret_int (by rw [powS_yes (modulus_of h1 h2)]; exact HQ.out), hD⟩
  · go_enter Try.func11, Try.ntmps11
    go_wp2_with (go_at_call 19; refine (right_no _ hm _).mono ?_; rintro e w' ⟨rfl, rfl⟩)
    go_ret
    exact ⟨ret_int (by rw [powS_no (modulus_not hm m0)]; rfl), Drawn.refl _⟩
set_option maxHeartbeats 1000000 in
theorem inv_any (a m : Int) (a0 : 0 ≤ a) (m0 : 0 ≤ m) (w : World) :
    Calls Try.prog 13 #[.int .u64 a, .int .u64 m] w fun z w' => z = .returned (.tuple #[.int .u64 (invS a.toNat m.toNat : Nat), .bool (hasB a.toNat m.toNat)]) ∧ Drawn w w' := by
  by_cases hm : 2 ≤ m ∧ m ≤ 4611686018427387904
  · obtain ⟨h1, h2⟩ := hm
    have r1 := Int.emod_nonneg a (show m ≠ 0 by omega)
    have r2 := Int.emod_lt_of_pos a (show 0 < m by omega)
    have hM := modulus_of h1 h2
    have hp : Euc a.toNat m.toNat m (a % m) 0 1 := by
      have := Euc.start (a := a.toNat) (m := m.toNat) (by omega)
      rwa [Int.natCast_emod, Int.toNat_of_nonneg a0, Int.toNat_of_nonneg m0] at this
    have HP0 := Lib.hid hp
    have HM := Lib.hid hM
    clear hp hM
    go_enter Try.func13, Try.ntmps13
    go_wp2_with (go_at_call 19; refine (right_yes _ h1 h2 _).mono ?_; rintro e w' ⟨rfl, rfl⟩)
    go_quiet (fail)
    go_wp2_with fail
    go_loopw [6, 7, 8, 9] (fun s6 s7 s8 s9 wr => ∃ b n x i : Int, s6 = .int .u64 b ∧ s7 = .int .u64 n ∧ s8 = .int .u64 x ∧ s9 = .int .u64 i ∧ Euc a.toNat m.toNat b n x i ∧ Drawn w wr) (fun _ s7 _ _ _ => (intOf s7).toNat)
    case atStart => exact ⟨_, _, _, _, rfl, rfl, rfl, rfl, HP0.out, Drawn.of _ _⟩
    case round =>
      obtain ⟨b, n, x, i, rfl, rfl, rfl, rfl, hp, hD⟩ := hrel
      have HP := Lib.hid hp
      obtain ⟨b0, bl, n0, nl, x0, xl, i0, il, _, _, _⟩ := hp
      by_cases hn : 0 < n
      · have hq := HP.out.step HM.out hn
        rw [Int.toNat_of_nonneg m0] at hq
        have HQ := Lib.hid hq
        have q1 : 0 ≤ b / n := Int.ediv_nonneg b0 n0
        have q2 : b / n ≤ b := Int.ediv_le_self n b0
        have q3 := Int.emod_nonneg (b / n) (show m ≠ 0 by omega)
        have q4 := Int.emod_lt_of_pos (b / n) (show 0 < m by omega)
        have q5 := Int.emod_nonneg b (show n ≠ 0 by omega)
        have q6 := Int.emod_lt_of_pos b hn
        clear hq
        go_wp2_with fail
        go_quiet (fail)
        go_wp2_with fail
        refine (times_any ((b / n) % m) i m q3 i0 q4 (by omega) h2 _).mono ?_
        rintro e1 w1 ⟨rfl, hD1⟩
        go_wp2_with fail
        refine (sub_any _ _ m x0 (by omega) m0 _).mono ?_
        rintro e1 w2 ⟨rfl, hD2⟩
        go_wp2_with fail
        go_roundw
        case rel => exact ⟨_, _, _, _, rfl, rfl, rfl, rfl, HQ.out, ((hD.drewN _).trans hD1).trans hD2⟩
        case measure => simp [intOf]; omega
      · obtain rfl : n = 0 := by omega
        by_cases hb : b = 1
        · subst hb
          obtain ⟨hy, he⟩ := HP.out.yes HM.out
          have HY := Lib.hid hy
          have HE := Lib.hid he
          clear hy he
          go_wp2_with fail
          go_ret2
          exact ⟨ret_int_bool HE.out.symm (hasB_yes HY.out).symm, hD⟩
        · have hno := HP.out.no hb
          have HN := Lib.hid hno
          have hb' : ((b : Int) != 1) = true := by rw [bne_iff_ne]; exact hb
          clear hno hb
          go_wp2_with fail
          go_ret2
          exact ⟨ret_int_bool (by rw [invS_no HN.out]; rfl) (hasB_no HN.out).symm, hD⟩
  · have hno : ¬ HasInv a.toNat m.toNat := fun h => modulus_not hm m0 h.1
    have HN := Lib.hid hno
    clear hno
    go_enter Try.func13, Try.ntmps13
    go_wp2_with (go_at_call 19; refine (right_no _ hm _).mono ?_; rintro e w' ⟨rfl, rfl⟩)
    go_ret2
    exact ⟨ret_int_bool (by rw [invS_no HN.out]; rfl) (hasB_no HN.out).symm, Drawn.refl _⟩
end Go.Proofs.Ytidadeldibppjaa
