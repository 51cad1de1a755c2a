/- The reference's product, by doubling and adding. -/
import Derived.Test.YtfoncfojljmimaaRefB
set_option linter.unusedVariables false
set_option linter.unusedSimpArgs false
namespace Go.Proofs.Ytfoncfojljmimaa
open Go.RowKit DivN NT
structure MulAt (a b m : Nat) (s t n : Int) : Prop where
  s0 : 0 ≤ s
  sl : s < m
  t0 : 0 ≤ t
  tl : t < m
  n0 : 0 ≤ n
  nl : n < 18446744073709551616
  eq : Cg m (s.toNat + t.toNat * n.toNat) (a * b)
theorem cg_sub {m x : Nat} (h : m ≤ x) : Cg m (x - m) x := by
  unfold Cg
  rw [← Nat.add_mod_right, Nat.sub_add_cancel h]
theorem MulAt.odd {a b m : Nat} {s t n s' t' : Int} (h : MulAt a b m s t n) (hn : n % 2 = 1) (a1 : 0 ≤ s') (a2 : s' < m) (a3 : 0 ≤ t') (a4 : t' < m)
    (es : s' = s + t ∨ s' = s + t - m) (et : t' = t + t ∨ t' = t + t - m) : MulAt a b m s' t' (n / 2) := by
  obtain ⟨s0, sl, t0, tl, n0, nl, eq⟩ := h
  refine ⟨a1, a2, a3, a4, by omega, by omega, ?_⟩
  have c1 : Cg m s'.toNat (s.toNat + t.toNat) := by
    rcases es with h | h
    · rw [show s'.toNat = s.toNat + t.toNat by omega]; exact Cg.refl _ _
    · rw [show s'.toNat = s.toNat + t.toNat - m by omega]; exact cg_sub (by omega)
  have c2 : Cg m t'.toNat (t.toNat + t.toNat) := by
    rcases et with h | h
    · rw [show t'.toNat = t.toNat + t.toNat by omega]; exact Cg.refl _ _
    · rw [show t'.toNat = t.toNat + t.toNat - m by omega]; exact cg_sub (by omega)
  refine (c1.add (c2.mul (Cg.refl m _))).trans ?_
  rw [show s.toNat + t.toNat + (t.toNat + t.toNat) * (n / 2).toNat = s.toNat + t.toNat * n.toNat by
    rw [show n.toNat = 2 * (n / 2).toNat + 1 by omega, Nat.mul_add, Nat.add_mul, Nat.mul_left_comm]; omega]
  exact eq
theorem MulAt.even {a b m : Nat} {s t n t' : Int} (h : MulAt a b m s t n) (hn : n % 2 = 0) (a3 : 0 ≤ t') (a4 : t' < m)
    (et : t' = t + t ∨ t' = t + t - m) : MulAt a b m s t' (n / 2) := by
  obtain ⟨s0, sl, t0, tl, n0, nl, eq⟩ := h
  refine ⟨s0, sl, a3, a4, by omega, by omega, ?_⟩
  have c2 : Cg m t'.toNat (t.toNat + t.toNat) := by
    rcases et with h | h
    · rw [show t'.toNat = t.toNat + t.toNat by omega]; exact Cg.refl _ _
    · rw [show t'.toNat = t.toNat + t.toNat - m by omega]; exact cg_sub (by omega)
  refine ((Cg.refl m _).add (c2.mul (Cg.refl m _))).trans ?_
  rw [show s.toNat + (t.toNat + t.toNat) * (n / 2).toNat = s.toNat + t.toNat * n.toNat by
    rw [show n.toNat = 2 * (n / 2).toNat by omega, Nat.add_mul, Nat.mul_left_comm]; omega]
  exact eq
theorem MulAt.done {a b m : Nat} {s t : Int} (h : MulAt a b m s t 0) : s = ((a * b % m : Nat) : Int) := by
  obtain ⟨s0, sl, t0, tl, n0, nl, eq⟩ := h
  simp only [Int.toNat_zero, Nat.mul_zero, Nat.add_zero] at eq
  unfold Cg at eq
  rw [Nat.mod_eq_of_lt (by omega)] at eq
  omega
set_option maxHeartbeats 1000000 in
theorem rmul_any (a b m : Int) (a0 : 0 ≤ a) (b0 : 0 ≤ b) (m0 : 0 ≤ m) (w : World) :
    Calls Try.prog 45 #[.int .u64 a, .int .u64 b, .int .u64 m] w fun e w' => e = .returned (.int .u64 (mulS a.toNat b.toNat m.toNat : Nat)) ∧ w = w' := by
  by_cases hm : 2 ≤ m ∧ m ≤ 4611686018427387904
  · obtain ⟨h1, h2⟩ := hm
    have r1 := Int.emod_nonneg a (show m ≠ 0 by omega)
    have r2 := Int.emod_lt_of_pos a (show 0 < m by omega)
    have r3 := Int.emod_nonneg b (show m ≠ 0 by omega)
    have r4 := Int.emod_lt_of_pos b (show 0 < m by omega)
    have hp : MulAt a.toNat b.toNat m.toNat 0 (a % m) (b % m) := by
      refine ⟨by omega, by omega, r1, by omega, r3, by omega, ?_⟩
      obtain ⟨a, rfl⟩ := Int.eq_ofNat_of_zero_le a0
      obtain ⟨b, rfl⟩ := Int.eq_ofNat_of_zero_le b0
      obtain ⟨m, rfl⟩ := Int.eq_ofNat_of_zero_le m0
      rw [tn_mod, tn_mod]
      simp only [Int.toNat_natCast, Int.toNat_zero, Nat.zero_add]
      exact (Cg.mod m a).mul (Cg.mod m b)
    have HP0 := Lib.hid hp
    clear hp
    go_enter Try.func45, Try.ntmps45
    go_wp2_with (go_at_call 49; refine (rright_yes _ h1 h2 _).mono ?_; rintro e w' ⟨rfl, rfl⟩)
    go_loop [7, 8, 9] (fun s4 s5 s6 => ∃ s t n : Int, s4 = .int .u64 s ∧ s5 = .int .u64 t ∧ s6 = .int .u64 n ∧ MulAt a.toNat b.toNat m.toNat s t n) (fun _ _ s6 => (intOf s6).toNat)
    case atStart => exact ⟨_, _, _, rfl, rfl, rfl, HP0.out⟩
    case round =>
      obtain ⟨s, t, n, rfl, rfl, rfl, hp⟩ := hrel
      have HP := Lib.hid hp
      obtain ⟨s0, sl, t0, tl, n0, nl, _⟩ := hp
      have sl' : s < m := by omega
      have tl' : t < m := by omega
      clear sl tl
      by_cases hn : 0 < n
      · by_cases ho : n % 2 = 1
        · have HO := Lib.hid ho
          have ho' : ((n % 2 : Int) == 1) = true := by rw [ho]; rfl
          clear ho
          by_cases hc : m ≤ s + t <;> by_cases hd : m ≤ t + t
          all_goals
            go_wp2_with fail
            go_round
            case rel => exact ⟨_, _, _, rfl, rfl, rfl, HP.out.odd HO.out (by omega) (by omega) (by omega) (by omega) (by omega) (by omega)⟩
            case measure => simp [intOf]; omega
        · have hz : n % 2 = 0 := by omega
          have HO := Lib.hid hz
          have ho' : ((n % 2 : Int) == 1) = false := by rw [beq_eq_false_iff_ne]; exact ho
          clear ho hz
          by_cases hd : m ≤ t + t
          all_goals
            go_wp2_with fail
            go_round
            case rel => exact ⟨_, _, _, rfl, rfl, rfl, HP.out.even HO.out (by omega) (by omega) (by omega)⟩
            case measure => simp [intOf]; omega
      · obtain rfl : n = 0 := by omega
        have hq := HP.out.done
        have HQ := Lib.hid hq
        clear hq
        go_wp2_with fail
        go_ret
        exact ⟨ret_int (by rw [mulS_yes (modulus_of h1 h2)]; exact HQ.out), rfl⟩
  · go_enter Try.func45, Try.ntmps45
    go_wp2_with (go_at_call 49; refine (rright_no _ hm _).mono ?_; rintro e w' ⟨rfl, rfl⟩)
    go_ret
    exact ⟨ret_int (by rw [mulS_no (modulus_not hm m0)]; rfl), rfl⟩
end Go.Proofs.Ytfoncfojljmimaa
