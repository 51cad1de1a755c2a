/- Merged texts: RefB, RefAdd, RefSub, RefMul, RefPow, RefInv. -/
import Derived.Test.YtlnkpbaibnfhhaaW1
set_option linter.unusedVariables false
set_option linter.unusedSimpArgs false
/- The reference's right: which number is a modulus. -/
namespace Go.Proofs.Ytlnkpbaibnfhhaa
open Go.RowKit DivN NT
theorem rright_yes (m : Int) (h1 : 2 ≤ m) (h2 : m ≤ 4611686018427387904) (w : World) :
    Calls Try.prog 56 #[.int .u64 m] w fun e w' => e = .returned (.bool true) ∧ w = w' := by
  go_enter Try.func56, Try.ntmps56
  go_wp2_with fail
  go_ret
  exact ⟨by simp [h2], rfl⟩
theorem rright_no (m : Int) (h : ¬ (2 ≤ m ∧ m ≤ 4611686018427387904)) (w : World) :
    Calls Try.prog 56 #[.int .u64 m] w fun e w' => e = .returned (.bool false) ∧ w = w' := by
  by_cases h1 : 2 ≤ m
  · have h2 : ¬ m ≤ 4611686018427387904 := fun h2 => h ⟨h1, h2⟩
    clear h
    go_enter Try.func56, Try.ntmps56
    go_wp2_with fail
    go_ret
    exact ⟨by simp [h2], rfl⟩
  · clear h
    go_enter Try.func56, Try.ntmps56
    go_wp2_with fail
    go_ret
    exact ⟨rfl, rfl⟩
end Go.Proofs.Ytlnkpbaibnfhhaa
/- The reference's sum. -/
namespace Go.Proofs.Ytlnkpbaibnfhhaa
open Go.RowKit DivN NT
theorem radd_any (a b m : Int) (a0 : 0 ≤ a) (b0 : 0 ≤ b) (m0 : 0 ≤ m) (w : World) :
    Calls Try.prog 31 #[.int .u64 a, .int .u64 b, .int .u64 m] w fun e w' => e = .returned (.int .u64 (addS a.toNat b.toNat m.toNat : Nat)) ∧ Drawn w w' := by
  by_cases hm : 2 ≤ m ∧ m ≤ 4611686018427387904
  · obtain ⟨h1, h2⟩ := hm
    have r1 := Int.emod_nonneg a (show m ≠ 0 by omega)
    have r2 := Int.emod_lt_of_pos a (show 0 < m by omega)
    have r3 := Int.emod_nonneg b (show m ≠ 0 by omega)
    have r4 := Int.emod_lt_of_pos b (show 0 < m by omega)
    have e : (addS a.toNat b.toNat m.toNat : Int) = (a % m + b % m) % m := by
      rw [addS_yes (modulus_of h1 h2)]
      obtain ⟨a, rfl⟩ := Int.eq_ofNat_of_zero_le a0
      obtain ⟨b, rfl⟩ := Int.eq_ofNat_of_zero_le b0
      obtain ⟨m, rfl⟩ := Int.eq_ofNat_of_zero_le m0
      simp [Int.add_emod]
    have HE := Lib.hid e
    clear e
    by_cases hc : m ≤ a % m + b % m
    all_goals
      go_enter Try.func31, Try.ntmps31
      go_wp2_with (go_at_call 56; refine (rright_yes _ h1 h2 _).mono ?_; rintro e w' ⟨rfl, rfl⟩)
      go_quiet (fail)
      go_wp2_with fail
      go_ret
      refine ⟨ret_int ?_, Drawn.of _ _⟩
      rw [HE.out]
      first
        | rw [Int.emod_eq_of_lt (a := a % m + b % m) (b := m) (by omega) (by omega)]
        | rw [← Int.emod_eq_of_lt (a := a % m + b % m - m) (b := m) (by omega) (by omega), Int.sub_emod_right]
  · go_enter Try.func31, Try.ntmps31
    go_wp2_with (go_at_call 56; refine (rright_no _ hm _).mono ?_; rintro e w' ⟨rfl, rfl⟩)
    go_ret
    exact ⟨ret_int (by rw [addS_no (modulus_not hm m0)]; rfl), Drawn.refl _⟩
end Go.Proofs.Ytlnkpbaibnfhhaa
/- The reference's difference. -/
namespace Go.Proofs.Ytlnkpbaibnfhhaa
open Go.RowKit DivN NT
theorem rsub_any (a b m : Int) (a0 : 0 ≤ a) (b0 : 0 ≤ b) (m0 : 0 ≤ m) (w : World) :
    Calls Try.prog 51 #[.int .u64 a, .int .u64 b, .int .u64 m] w fun e w' => e = .returned (.int .u64 (subS a.toNat b.toNat m.toNat : Nat)) ∧ Drawn w w' := by
  by_cases hm : 2 ≤ m ∧ m ≤ 4611686018427387904
  · obtain ⟨h1, h2⟩ := hm
    have r3 := Int.emod_nonneg b (show m ≠ 0 by omega)
    have r4 := Int.emod_lt_of_pos b (show 0 < m by omega)
    have e : addS a.toNat (m - b % m).toNat m.toNat = subS a.toNat b.toNat m.toNat := by
      rw [addS_yes (modulus_of h1 h2), subS_yes (modulus_of h1 h2)]
      obtain ⟨a, rfl⟩ := Int.eq_ofNat_of_zero_le a0
      obtain ⟨b, rfl⟩ := Int.eq_ofNat_of_zero_le b0
      obtain ⟨m, rfl⟩ := Int.eq_ofNat_of_zero_le m0
      have hl := Nat.mod_lt b (show 0 < m by omega)
      have e1 : ((m : Int) - (b : Int) % (m : Int)).toNat = m - b % m := by rw [← Int.natCast_emod]; omega
      simp only [Int.toNat_natCast]
      rw [e1, show a % m + m - b % m = a % m + (m - b % m) by omega, Nat.mod_add_mod]
    have HE := Lib.hid e
    clear e
    go_enter Try.func51, Try.ntmps51
    go_wp2_with (go_at_call 56; refine (rright_yes _ h1 h2 _).mono ?_; rintro e w' ⟨rfl, rfl⟩)
    first | go_quiet ((go_at_call 31; exact quiet_drawn (radd_any a (m - b % m) m a0 (by omega) m0 _))) | (refine (radd_any a (m - b % m) m a0 (by omega) m0 _).mono ?_; rintro e w' ⟨rfl, hD⟩)
    go_wp2_with fail
    go_ret
    exact ⟨ret_int (by rw [← HE.out]), by first | exact Drawn.of _ _ | exact hD⟩
  · go_enter Try.func51, Try.ntmps51
    go_wp2_with (go_at_call 56; refine (rright_no _ hm _).mono ?_; rintro e w' ⟨rfl, rfl⟩)
    go_ret
    exact ⟨ret_int (by rw [subS_no (modulus_not hm m0)]; rfl), Drawn.refl _⟩
end Go.Proofs.Ytlnkpbaibnfhhaa
/- The reference's product, by doubling and adding. -/
namespace Go.Proofs.Ytlnkpbaibnfhhaa
open Go.RowKit DivN NT
structure MulAt (a b m : Nat) (s t n : Int) : Prop where
  s0 : 0 ≤ s
  sl : s < m
  t0 : 0 ≤ t
  tl : t < m
  n0 : 0 ≤ n
  nl : n < 18446744073709551616
  eq : Cg m (s.toNat + t.toNat * n.toNat) (a * b)
theorem cg_sub {m x : Nat} (h : m ≤ x) : Cg m (x - m) x := by
  unfold Cg
  rw [← Nat.add_mod_right, Nat.sub_add_cancel h]
theorem MulAt.odd {a b m : Nat} {s t n s' t' : Int} (h : MulAt a b m s t n) (hn : n % 2 = 1) (a1 : 0 ≤ s') (a2 : s' < m) (a3 : 0 ≤ t') (a4 : t' < m)
    (es : s' = s + t ∨ s' = s + t - m) (et : t' = t + t ∨ t' = t + t - m) : MulAt a b m s' t' (n / 2) := by
  obtain ⟨s0, sl, t0, tl, n0, nl, eq⟩ := h
  refine ⟨a1, a2, a3, a4, by omega, by omega, ?_⟩
  have c1 : Cg m s'.toNat (s.toNat + t.toNat) := by
    rcases es with h | h
    · rw [show s'.toNat = s.toNat + t.toNat by omega]; exact Cg.refl _ _
    · rw [show s'.toNat = s.toNat + t.toNat - m by omega]; exact cg_sub (by omega)
  have c2 : Cg m t'.toNat (t.toNat + t.toNat) := by
    rcases et with h | h
    · rw [show t'.toNat = t.toNat + t.toNat by omega]; exact Cg.refl _ _
    · rw [show t'.toNat = t.toNat + t.toNat - m by omega]; exact cg_sub (by omega)
  refine (c1.add (c2.mul (Cg.refl m _))).trans ?_
  rw [show s.toNat + t.toNat + (t.toNat + t.toNat) * (n / 2).toNat = s.toNat + t.toNat * n.toNat by
    rw [show n.toNat = 2 * (n / 2).toNat + 1 by omega, Nat.mul_add, Nat.add_mul, Nat.mul_left_comm]; omega]
  exact eq
theorem MulAt.even {a b m : Nat} {s t n t' : Int} (h : MulAt a b m s t n) (hn : n % 2 = 0) (a3 : 0 ≤ t') (a4 : t' < m)
    (et : t' = t + t ∨ t' = t + t - m) : MulAt a b m s t' (n / 2) := by
  obtain ⟨s0, sl, t0, tl, n0, nl, eq⟩ := h
  refine ⟨s0, sl, a3, a4, by omega, by omega, ?_⟩
  have c2 : Cg m t'.toNat (t.toNat + t.toNat) := by
    rcases et with h | h
    · rw [show t'.toNat = t.toNat + t.toNat by omega]; exact Cg.refl _ _
    · rw [show t'.toNat = t.toNat + t.toNat - m by omega]; exact cg_sub (by omega)
  refine ((Cg.refl m _).add (c2.mul (Cg.refl m _))).trans ?_
  rw [show s.toNat + (t.toNat + t.toNat) * (n / 2).toNat = s.toNat + t.toNat * n.toNat by
    rw [show n.toNat = 2 * (n / 2).toNat by omega, Nat.add_mul, Nat.mul_left_comm]; omega]
  exact eq
theorem MulAt.done {a b m : Nat} {s t : Int} (h : MulAt a b m s t 0) : s = ((a * b % m : Nat) : Int) := by
  obtain ⟨s0, sl, t0, tl, n0, nl, eq⟩ := h
  simp only [Int.toNat_zero, Nat.mul_zero, Nat.add_zero] at eq
  unfold Cg at eq
  rw [Nat.mod_eq_of_lt (by omega)] at eq
  omega
set_option maxHeartbeats 1000000 in
theorem rmul_any (a b m : Int) (a0 : 0 ≤ a) (b0 : 0 ≤ b) (m0 : 0 ≤ m) (w : World) :
    Calls Try.prog 36 #[.int .u64 a, .int .u64 b, .int .u64 m] w fun e w' => e = .returned (.int .u64 (mulS a.toNat b.toNat m.toNat : Nat)) ∧ w = w' := by
  by_cases hm : 2 ≤ m ∧ m ≤ 4611686018427387904
  · obtain ⟨h1, h2⟩ := hm
    have r1 := Int.emod_nonneg a (show m ≠ 0 by omega)
    have r2 := Int.emod_lt_of_pos a (show 0 < m by omega)
    have r3 := Int.emod_nonneg b (show m ≠ 0 by omega)
    have r4 := Int.emod_lt_of_pos b (show 0 < m by omega)
    have hp : MulAt a.toNat b.toNat m.toNat 0 (a % m) (b % m) := by
      refine ⟨by omega, by omega, r1, by omega, r3, by omega, ?_⟩
      obtain ⟨a, rfl⟩ := Int.eq_ofNat_of_zero_le a0
      obtain ⟨b, rfl⟩ := Int.eq_ofNat_of_zero_le b0
      obtain ⟨m, rfl⟩ := Int.eq_ofNat_of_zero_le m0
      rw [tn_mod, tn_mod]
      simp only [Int.toNat_natCast, Int.toNat_zero, Nat.zero_add]
      exact (Cg.mod m a).mul (Cg.mod m b)
    have HP0 := Lib.hid hp
    clear hp
    go_enter Try.func36, Try.ntmps36
    go_wp2_with (go_at_call 56; refine (rright_yes _ h1 h2 _).mono ?_; rintro e w' ⟨rfl, rfl⟩)
    go_loop [7, 8, 9] (fun s4 s5 s6 => ∃ s t n : Int, s4 = .int .u64 s ∧ s5 = .int .u64 t ∧ s6 = .int .u64 n ∧ MulAt a.toNat b.toNat m.toNat s t n) (fun _ _ s6 => (intOf s6).toNat)
    case atStart => exact ⟨_, _, _, rfl, rfl, rfl, HP0.out⟩
    case round =>
      obtain ⟨s, t, n, rfl, rfl, rfl, hp⟩ := hrel
      have HP := Lib.hid hp
      obtain ⟨s0, sl, t0, tl, n0, nl, _⟩ := hp
      have sl' : s < m := by omega
      have tl' : t < m := by omega
      clear sl tl
      by_cases hn : 0 < n
      · by_cases ho : n % 2 = 1
        · have HO := Lib.hid ho
          have ho' : ((n % 2 : Int) == 1) = true := by rw [ho]; rfl
          clear ho
          by_cases hc : m ≤ s + t <;> by_cases hd : m ≤ t + t
          all_goals
            go_wp2_with fail
            go_round
            case rel => exact ⟨_, _, _, rfl, rfl, rfl, HP.out.odd HO.out (by omega) (by omega) (by omega) (by omega) (by omega) (by omega)⟩
            case measure => simp [intOf]; omega
        · have hz : n % 2 = 0 := by omega
          have HO := Lib.hid hz
          have ho' : ((n % 2 : Int) == 1) = false := by rw [beq_eq_false_iff_ne]; exact ho
          clear ho hz
          by_cases hd : m ≤ t + t
          all_goals
            go_wp2_with fail
            go_round
            case rel => exact ⟨_, _, _, rfl, rfl, rfl, HP.out.even HO.out (by omega) (by omega) (by omega)⟩
            case measure => simp [intOf]; omega
      · obtain rfl : n = 0 := by omega
        have hq := HP.out.done
        have HQ := Lib.hid hq
        clear hq
        go_wp2_with fail
        go_ret
        exact ⟨ret_int (by rw [mulS_yes (modulus_of h1 h2)]; exact HQ.out), rfl⟩
  · go_enter Try.func36, Try.ntmps36
    go_wp2_with (go_at_call 56; refine (rright_no _ hm _).mono ?_; rintro e w' ⟨rfl, rfl⟩)
    go_ret
    exact ⟨ret_int (by rw [mulS_no (modulus_not hm m0)]; rfl), rfl⟩
end Go.Proofs.Ytlnkpbaibnfhhaa
/- The reference's power. -/
namespace Go.Proofs.Ytlnkpbaibnfhhaa
open Go.RowKit DivN NT
structure RPowAt (a e m : Nat) (x y r : Int) : Prop where
  x0 : 0 ≤ x
  r0 : 0 ≤ r
  y0 : 0 ≤ y
  yl : y < 18446744073709551616
  eq : Cg m (r.toNat * x.toNat ^ y.toNat) (a ^ e)
theorem RPowAt.odd {a e m : Nat} {x y r : Int} (h : RPowAt a e m x y r) (hM : Modulus m) (hy : y % 2 = 1) : RPowAt a e m (mulS x.toNat x.toNat m : Nat) (y / 2) (mulS r.toNat x.toNat m : Nat) := by
  obtain ⟨x0, r0, y0, yl, eq⟩ := h
  refine ⟨by omega, by omega, by omega, by omega, ?_⟩
  rw [Int.toNat_natCast, Int.toNat_natCast, mulS_yes hM, mulS_yes hM]
  refine Cg.trans ((Cg.mod m _).mul ((Cg.mod m _).pow _)) (Cg.trans ?_ eq)
  have e1 : y.toNat = 1 + 2 * (y / 2).toNat := by omega
  rw [e1, Nat.pow_add, Nat.pow_mul, Nat.pow_one, Nat.mul_assoc, Nat.pow_two]
  exact Cg.refl _ _
theorem RPowAt.even {a e m : Nat} {x y r : Int} (h : RPowAt a e m x y r) (hM : Modulus m) (hy : y % 2 = 0) : RPowAt a e m (mulS x.toNat x.toNat m : Nat) (y / 2) r := by
  obtain ⟨x0, r0, y0, yl, eq⟩ := h
  refine ⟨by omega, r0, by omega, by omega, ?_⟩
  rw [Int.toNat_natCast, mulS_yes hM]
  refine Cg.trans ((Cg.refl m _).mul ((Cg.mod m _).pow _)) (Cg.trans ?_ eq)
  have e1 : y.toNat = 2 * (y / 2).toNat := by omega
  rw [e1, Nat.pow_mul, Nat.pow_two]
  exact Cg.refl _ _
theorem mulS_lt {a b m : Nat} (h : Modulus m) : mulS a b m < m := by rw [mulS_yes h]; exact Nat.mod_lt _ (by have := h.1; omega)
set_option maxHeartbeats 1000000 in
theorem rpow_any (a e m : Int) (a0 : 0 ≤ a) (e0 : 0 ≤ e) (e1 : e < 18446744073709551616) (m0 : 0 ≤ m) (w : World) :
    Calls Try.prog 59 #[.int .u64 a, .int .u64 e, .int .u64 m] w fun z w' => z = .returned (.int .u64 (powS a.toNat e.toNat m.toNat : Nat)) ∧ Drawn w w' := by
  by_cases hm : 2 ≤ m ∧ m ≤ 4611686018427387904
  · obtain ⟨h1, h2⟩ := hm
    have hM := modulus_of h1 h2
    have r1 := Int.emod_nonneg a (show m ≠ 0 by omega)
    have hp : RPowAt a.toNat e.toNat m.toNat (a % m) e 1 := by
      refine ⟨r1, by omega, e0, e1, ?_⟩
      obtain ⟨a, rfl⟩ := Int.eq_ofNat_of_zero_le a0
      obtain ⟨m, rfl⟩ := Int.eq_ofNat_of_zero_le m0
      rw [tn_mod]
      simp only [Int.toNat_natCast, Int.toNat_one, Nat.one_mul]
      exact (Cg.mod m a).pow _
    have HP0 := Lib.hid hp
    have HM := Lib.hid hM
    clear hp hM
    go_enter Try.func59, Try.ntmps59
    go_wp2_with (go_at_call 56; refine (rright_yes _ h1 h2 _).mono ?_; rintro e w' ⟨rfl, rfl⟩)
    go_loopw [1, 7, 8] (fun s1 s7 s8 wr => ∃ x y r : Int, s1 = .int .u64 y ∧ s7 = .int .u64 r ∧ s8 = .int .u64 x ∧ RPowAt a.toNat e.toNat m.toNat x y r ∧ Drawn w wr) (fun s1 _ _ _ => (intOf s1).toNat)
    case atStart => exact ⟨_, _, _, rfl, rfl, rfl, HP0, Drawn.refl _⟩
    case round =>
      obtain ⟨x, y, r, rfl, rfl, rfl, hp, hD⟩ := hrel
      have HP := Lib.hid hp
      obtain ⟨x0, r0, y0, yl, _⟩ := hp
      by_cases hy : 0 < y
      · by_cases ho : y % 2 = 1
        · have hq := HP.out.odd HM.out ho
          have HQ := Lib.hid hq
          have ho' : ((y % 2 : Int) == 1) = true := by rw [ho]; rfl
          clear hq ho
          go_wp2_with fail
          refine (rmul_any r x m r0 x0 m0 _).mono ?_
          rintro z1 w1 ⟨rfl, rfl⟩
          go_wp2_with fail
          refine (rmul_any x x m x0 x0 m0 _).mono ?_
          rintro z1 w2 ⟨rfl, rfl⟩
          go_wp2_with fail
          go_roundw
          case rel => exact ⟨_, _, _, rfl, rfl, rfl, HQ.out, hD⟩
          case measure => simp [intOf]; omega
        · have hq := HP.out.even HM.out (by omega)
          have HQ := Lib.hid hq
          have ho' : ((y % 2 : Int) == 1) = false := by rw [beq_eq_false_iff_ne]; exact ho
          clear hq ho
          go_wp2_with fail
          refine (rmul_any x x m x0 x0 m0 _).mono ?_
          rintro z1 w2 ⟨rfl, rfl⟩
          go_wp2_with fail
          go_roundw
          case rel => exact ⟨_, _, _, rfl, rfl, rfl, HQ.out, hD⟩
          case measure => simp [intOf]; omega
      · obtain rfl : y = 0 := by omega
        have hq : r % m = (powS a.toNat e.toNat m.toNat : Nat) := by
          have h := HP.out.eq
          simp only [Int.toNat_zero, Nat.pow_zero, Nat.mul_one] at h
          unfold Cg at h
          rw [powS_yes HM.out, ← h, Int.natCast_emod, Int.toNat_of_nonneg r0, Int.toNat_of_nonneg m0]
        have HQ := Lib.hid hq
        clear hq
        go_wp2_with fail
        go_ret
        exact ⟨ret_int HQ.out, hD⟩
  · go_enter Try.func59, Try.ntmps59
    go_wp2_with (go_at_call 56; refine (rright_no _ hm _).mono ?_; rintro e w' ⟨rfl, rfl⟩)
    go_ret
    exact ⟨ret_int (by rw [powS_no (modulus_not hm m0)]; rfl), Drawn.refl _⟩
end Go.Proofs.Ytlnkpbaibnfhhaa
/- The reference's inverse. -/
namespace Go.Proofs.Ytlnkpbaibnfhhaa
open Go.RowKit DivN NT
theorem mulS_tm {k x m : Nat} (h : Modulus m) : mulS k x m = tm (k % m) x m := by
  rw [mulS_yes h]; unfold tm; rw [Nat.mul_mod k x, Nat.mul_mod (k % m) x, Nat.mod_mod]
theorem left_of {b n : Int} (b0 : 0 ≤ b) (n0 : 0 < n) (bl : b < 18446744073709551616) : IntKind.u64.wrap (b - IntKind.u64.wrap (b / n * n)) = b % n := by
  have h := Int.mul_ediv_add_emod b n
  have r5 := Int.emod_nonneg b (show n ≠ 0 by omega)
  have r6 := Int.ediv_nonneg b0 (show 0 ≤ n by omega)
  have r7 : 0 ≤ b / n * n := Int.mul_nonneg r6 (by omega)
  rw [Int.mul_comm] at h
  simp only [IntKind.wrap_u64]
  omega
set_option maxHeartbeats 1000000 in
theorem rinv_any (a m : Int) (a0 : 0 ≤ a) (m0 : 0 ≤ m) (w : World) :
    Calls Try.prog 52 #[.int .u64 a, .int .u64 m] w fun z w' => z = .returned (.tuple #[.int .u64 (invS a.toNat m.toNat : Nat), .bool (hasB a.toNat m.toNat)]) ∧ Drawn w w' := by
  by_cases hm : 2 ≤ m ∧ m ≤ 4611686018427387904
  · obtain ⟨h1, h2⟩ := hm
    have r1 := Int.emod_nonneg a (show m ≠ 0 by omega)
    have r2 := Int.emod_lt_of_pos a (show 0 < m by omega)
    have hM := modulus_of h1 h2
    have hp : Euc a.toNat m.toNat m (a % m) 0 1 := by
      have := Euc.start (a := a.toNat) (m := m.toNat) (by omega)
      rwa [Int.natCast_emod, Int.toNat_of_nonneg a0, Int.toNat_of_nonneg m0] at this
    have HP0 := Lib.hid hp
    have HM := Lib.hid hM
    clear hp hM
    go_enter Try.func52, Try.ntmps52
    go_wp2_with (go_at_call 56; refine (rright_yes _ h1 h2 _).mono ?_; rintro e w' ⟨rfl, rfl⟩)
    first | (go_quiet (fail); go_wp2_with fail) | skip
    go_loopw [6, 7, 8, 9] (fun s6 s7 s8 s9 wr => ∃ b n x i : Int, s6 = .int .u64 n ∧ s7 = .int .u64 b ∧ s8 = .int .u64 i ∧ s9 = .int .u64 x ∧ Euc a.toNat m.toNat b n x i ∧ Drawn w wr) (fun s6 _ _ _ _ => (intOf s6).toNat)
    case atStart => exact ⟨_, _, _, _, rfl, rfl, rfl, rfl, HP0.out, by first | exact Drawn.of _ _ | exact Drawn.refl _⟩
    case round =>
      obtain ⟨b, n, x, i, rfl, rfl, rfl, rfl, hp, hD⟩ := hrel
      have HP := Lib.hid hp
      obtain ⟨b0, bl, n0, nl, x0, xl, i0, il, _, _, _⟩ := hp
      by_cases hn : 0 < n
      · have hq := HP.out.step HM.out hn
        have e1 : ((b / n) % (m.toNat : Int)).toNat = (b / n).toNat % m.toNat := by
          obtain ⟨b, rfl⟩ := Int.eq_ofNat_of_zero_le b0
          obtain ⟨n, rfl⟩ := Int.eq_ofNat_of_zero_le n0
          rw [← Int.natCast_ediv, tn_mod]; rfl
        rw [e1, ← mulS_tm HM.out] at hq
        have HQ := Lib.hid hq
        have q1 : 0 ≤ b / n := Int.ediv_nonneg b0 n0
        have q2 : b / n ≤ b := Int.ediv_le_self n b0
        have q5 := Int.emod_nonneg b (show n ≠ 0 by omega)
        have q6 := Int.emod_lt_of_pos b hn
        have el := left_of b0 hn (by omega)
        clear hq e1
        go_wp2_with fail
        refine (rmul_any (b / n) i m q1 i0 m0 _).mono ?_
        rintro z1 w1 ⟨rfl, rfl⟩
        go_wp2_with fail
        refine (rsub_any _ _ m x0 (by omega) m0 _).mono ?_
        rintro z1 w2 ⟨rfl, hD2⟩
        go_wp2_with fail
        go_roundw
        case rel => exact ⟨_, _, _, _, rfl, rfl, rfl, rfl, HQ.out, hD.trans hD2⟩
        case measure => simp [intOf]; omega
      · obtain rfl : n = 0 := by omega
        by_cases hb : b = 1
        · subst hb
          obtain ⟨hy, he⟩ := HP.out.yes HM.out
          have HY := Lib.hid hy
          have HE := Lib.hid he
          have hx : x % m = x := Int.emod_eq_of_lt x0 (by omega)
          clear hy he
          go_wp2_with fail
          go_ret2
          exact ⟨ret_int_bool HE.out.symm (hasB_yes HY.out).symm, hD⟩
        · have hno := HP.out.no hb
          have HN := Lib.hid hno
          have hb' : ((b : Int) != 1) = true := by rw [bne_iff_ne]; exact hb
          clear hno hb
          go_wp2_with fail
          go_ret2
          exact ⟨ret_int_bool (by rw [invS_no HN.out]; rfl) (hasB_no HN.out).symm, hD⟩
  · have hno : ¬ HasInv a.toNat m.toNat := fun h => modulus_not hm m0 h.1
    have HN := Lib.hid hno
    clear hno
    go_enter Try.func52, Try.ntmps52
    go_wp2_with (go_at_call 56; refine (rright_no _ hm _).mono ?_; rintro e w' ⟨rfl, rfl⟩)
    go_ret2
    exact ⟨ret_int_bool (by rw [invS_no HN.out]; rfl) (hasB_no HN.out).symm, Drawn.refl _⟩
end Go.Proofs.Ytlnkpbaibnfhhaa
