/- math/bits.Div64: the quotient and the remainder of a number of two words by one word, where the quotient fits. -/
import Derived.Test.YtfoncfojljmimaaShelf
import Derived.Test.YtfoncfojljmimaaDivN
import Derived.Test.YtfoncfojljmimaaBase
set_option linter.unusedVariables false
set_option linter.unusedSimpArgs false
namespace Go.Proofs.Ytfoncfojljmimaa
open Go.RowKit DivN
theorem lz (y : Nat) (h0 : 0 < y) (hy : y < 18446744073709551616) (w : World) :
    Calls Try.prog 58 #[.int .u64 y] w fun e w' => (∃ s : Nat, e = .returned (.int .i64 s) ∧ s ≤ 63 ∧ 9223372036854775808 ≤ y * 2 ^ s ∧ y * 2 ^ s < 18446744073709551616) ∧ w = w' := by
  obtain ⟨s, h1, h2, h3, h4⟩ := norm y h0 hy
  refine (Try.bits_LeadingZeros64 y w (by omega) (by omega)).mono ?_
  rintro e w' ⟨rfl, rfl⟩
  exact ⟨⟨s, by rw [← h2]; rfl, h1, h3, h4⟩, rfl⟩
set_option maxRecDepth 100000 in
set_option maxHeartbeats 4000000 in
theorem div64 (hi lo y : Nat) (hhi : hi < y) (hlo : lo < 18446744073709551616) (hy : y < 18446744073709551616) (h0 : ((hi : Int) == 0) = false) (w : World) :
    Calls Try.prog 56 #[.int .u64 hi, .int .u64 lo, .int .u64 y] w fun e w' => e = .returned (.tuple #[.int .u64 ((hi * 18446744073709551616 + lo) / y : Nat), .int .u64 ((hi * 18446744073709551616 + lo) % y : Nat)]) ∧ Drawn w w' := by
  have h1 : ((y : Int) == 0) = false := by rw [beq_eq_false_iff_ne]; omega
  have h2 : decide ((y : Int) ≤ hi) = false := by simp; omega
  go_enter Try.func56, Try.ntmps56
  go_wp2_with fail
  refine (lz _ (by omega) (by omega) _).mono ?_
  rintro e w' ⟨⟨s, rfl, hs, hn1, hn2⟩, rfl⟩
  have hlaid := laid hi lo y s hhi hlo hs
  obtain ⟨ho1, ho2, ho3⟩ := orr hi lo y s hhi hlo hs hn2
  obtain ⟨Y, hY⟩ : ∃ Y, Y = y * 2 ^ s := ⟨_, rfl⟩
  have e1 : IntKind.u64.wrap ((y : Int) * 2 ^ s) = (Y : Int) := by rw [hY, ← wrap_nat _ hn2]; simp
  have hYlt : hi * 2 ^ s + lo / 2 ^ (64 - s) < Y := by rw [hY]; exact hlaid.lt
  rw [← hY] at hn1 hn2
  obtain ⟨u, hu⟩ : ∃ u, u = hi * 2 ^ s + lo / 2 ^ (64 - s) := ⟨_, rfl⟩
  have e4 : bits .or .u64 (IntKind.u64.wrap ((hi : Int) * 2 ^ s)) ((lo : Int) / 2 ^ (64 - s)) = (u : Int) := by
    have a1 : IntKind.u64.wrap ((hi : Int) * 2 ^ s) = ((hi * 2 ^ s : Nat) : Int) := by rw [← wrap_nat _ ho1]; simp
    have a2 : ((lo : Int) / 2 ^ (64 - s)) = ((lo / 2 ^ (64 - s) : Nat) : Int) := by simp
    have a3 : lo / 2 ^ (64 - s) ≤ lo := Nat.div_le_self _ _
    rw [a1, a2, u64_or_nat _ _ ho1 (by omega), ho3, hu]
  obtain ⟨L, hL⟩ : ∃ L, L = lo * 2 ^ s % 18446744073709551616 := ⟨_, rfl⟩
  have e5 : IntKind.u64.wrap ((lo : Int) * 2 ^ s) = (L : Int) := by rw [hL, IntKind.wrap_u64]; simp
  have hLlt : L < 18446744073709551616 := by rw [hL]; exact Nat.mod_lt _ (by omega)
  rw [← hu] at hlaid hYlt
  rw [← hL] at hlaid
  obtain ⟨v1, hv1⟩ : ∃ v, v = Y / 4294967296 := ⟨_, rfl⟩
  obtain ⟨v0, hv0⟩ : ∃ v, v = Y % 4294967296 := ⟨_, rfl⟩
  obtain ⟨u1, hu1⟩ : ∃ v, v = L / 4294967296 := ⟨_, rfl⟩
  obtain ⟨u0, hu0⟩ : ∃ v, v = L % 4294967296 := ⟨_, rfl⟩
  have e2 : (Y : Int) / 4294967296 = (v1 : Int) := by omega
  have e3 : bits .and .u64 (Y : Int) 4294967295 = (v0 : Int) := by rw [masked _ hn2, hv0]
  have e6 : (L : Int) / 4294967296 = (u1 : Int) := by omega
  have e7 : bits .and .u64 (L : Int) 4294967295 = (u0 : Int) := by rw [masked _ hLlt, hu0]
  rw [← hu1, ← hu0] at hlaid
  have b1 : v1 < 4294967296 := by omega
  have b2 : 2147483648 ≤ v1 := by omega
  have b3 : v0 < 4294967296 := by omega
  have b4 : u1 < 4294967296 := by omega
  have b5 : u0 < 4294967296 := by omega
  have b6' : u < v1 * 4294967296 + v0 := by omega
  have HY : Y = v1 * 4294967296 + v0 := by omega
  have b7 : u < 18446744073709551616 := by omega
  have g := Guess.start (v0 := v0) (u := u) (show 0 < v1 by omega) b4
  rw [← HY] at b6'
  obtain ⟨q, hq⟩ : ∃ q, q = u / v1 := ⟨_, rfl⟩
  have e8 : (u : Int) / (v1 : Int) = (q : Int) := by rw [hq]; simp
  obtain ⟨r, hr⟩ : ∃ q, q = u % v1 := ⟨_, rfl⟩
  rw [← hq, ← hr] at g
  have HL := Lib.hid hlaid
  have HG := Lib.hid g
  have HYe := Lib.hid HY
  have HYs := Lib.hid hY
  have hrlt : r < v1 := by rw [hr]; exact Nat.mod_lt _ (by omega)
  have B6 := Lib.hid b6'
  have hY0 : 0 < Y := by omega
  clear hlaid g HY hY hq hr hv1 hv0 hu1 hu0 hu hL ho1 ho2 ho3 hn1 hYlt b6'
  go_upto_block 0 with fail
  go_cut [15, 16] (fun s15 s16 wx => s15 = .int .u64 ((u * 4294967296 + u1) / Y : Nat) ∧ w = wx)
  case first =>
    have bq : q < 8589934592 := HG.out.bound b2 b7
    have ep : IntKind.u64.wrap (q : Int) = q := wrap_nat _ (by omega)
    have er : IntKind.u64.wrap ((u : Int) - IntKind.u64.wrap ((q : Int) * v1)) = (r : Int) := by
      have h := HG.out.eq
      have : ((q : Int) * v1) = ((q * v1 : Nat) : Int) := by simp
      rw [this, wrap_nat _ (by omega), show ((u : Int) - ((q * v1 : Nat) : Int)) = (r : Int) by omega, wrap_nat _ (by omega)]
    have brr : r < 4294967296 := by omega
    have HG0 := HG.out
    go_wp2_with fail
    go_loop [15, 16] (fun s15 s16 => ∃ q r : Int, s15 = .int .u64 q ∧ s16 = .int .u64 r ∧ GuessI v1 v0 u u1 q r) (fun s15 _ => (intOf s15).toNat)
    case atStart => exact ⟨q, r, by rw [ep], by rw [ep, er], ⟨HG.out, by omega, by omega, by omega⟩⟩
    case round =>
      clear ep er bq brr HG0 e1 e2 e3 e4 e5 e6 e7 e8
      obtain ⟨q1, r1, rfl, rfl, hg⟩ := hrel
      obtain ⟨hg, hq0, hr0, hr1⟩ := hg
      have bq : q1 < 8589934592 := by have := hg.bound b2 b7; omega
      by_cases hB : q1 < 4294967296
      · obtain ⟨Z, hZ⟩ : ∃ Z, Z = q1.toNat * v0 := ⟨_, rfl⟩
        have hZl : q1.toNat * v0 ≤ 18446744065119617025 := Nat.le_trans (Nat.mul_le_mul (show q1.toNat ≤ 4294967295 by omega) (show v0 ≤ 4294967295 by omega)) (by omega)
        have ez : IntKind.u64.wrap (q1 * v0) = (Z : Int) := by rw [show q1 * v0 = ((q1.toNat * v0 : Nat) : Int) by simp; rw [Int.max_eq_left hq0], wrap_nat _ (by omega), hZ]
        rw [← hZ] at hZl
        by_cases hC : 4294967296 * r1 + (u1 : Int) < (Z : Int)
        · obtain ⟨hq1, hg'⟩ := hg.step (by omega) (by rw [← HYe.out]; exact B6.out) b4 (.inr (by rw [← hZ]; omega))
          by_cases hD : r1 + (v1 : Int) < 4294967296
          · have HG' : GuessI v1 v0 u u1 (q1 - 1) (r1 + v1) := ⟨by rw [show (q1 - 1).toNat = q1.toNat - 1 by omega, show (r1 + (v1 : Int)).toNat = r1.toNat + v1 by omega]; exact hg', by omega, by omega, by omega⟩
            clear hZ hg hg'
            go_wp2_with fail
            go_round
            case rel => exact ⟨q1 - 1, r1 + v1, rfl, rfl, HG'⟩
            case measure => simp [intOf]; omega
          · have hf := hg'.full (by omega) (by rw [← HYe.out]; exact B6.out) b3 (by omega)
            have hq := hg'.done (by omega) hf.2
            have HQ := Lib.hid (show q1 - 1 = (((u * 4294967296 + u1) / Y : Nat) : Int) from by rw [HYe.out, ← hq]; omega)
            clear hZ hg hg' hf hq
            go_wp2_with fail
            go_meet
            exact ⟨by rw [HQ.out], rfl⟩
        · have hq := hg.done (by omega) (by rw [← hZ]; omega)
          have HQ := Lib.hid (show q1 = (((u * 4294967296 + u1) / Y : Nat) : Int) from by rw [HYe.out, ← hq]; omega)
          clear hZ hq hg
          go_wp2_with fail
          go_meet
          exact ⟨by rw [HQ.out], rfl⟩
      · obtain ⟨hq1, hg'⟩ := hg.step (by omega) (by rw [← HYe.out]; exact B6.out) b4 (.inl (by omega))
        by_cases hD : r1 + (v1 : Int) < 4294967296
        · have HG' : GuessI v1 v0 u u1 (q1 - 1) (r1 + v1) := ⟨by rw [show (q1 - 1).toNat = q1.toNat - 1 by omega, show (r1 + (v1 : Int)).toNat = r1.toNat + v1 by omega]; exact hg', by omega, by omega, by omega⟩
          clear hg hg'
          go_wp2_with fail
          go_round
          case rel => exact ⟨q1 - 1, r1 + v1, rfl, rfl, HG'⟩
          case measure => simp [intOf]; omega
        · have hf := hg'.full (by omega) (by rw [← HYe.out]; exact B6.out) b3 (by omega)
          have hq := hg'.done (by omega) hf.2
          have HQ := Lib.hid (show q1 - 1 = (((u * 4294967296 + u1) / Y : Nat) : Int) from by rw [HYe.out, ← hq]; omega)
          clear hg hg' hf hq
          go_wp2_with fail
          go_meet
          exact ⟨by rw [HQ.out], rfl⟩
  case rest =>
    obtain ⟨rfl, rfl⟩ := hcut
    obtain ⟨Q, hQ⟩ : ∃ Q, Q = (u * 4294967296 + u1) / Y := ⟨_, rfl⟩
    rw [← hQ]
    obtain ⟨U, hU⟩ : ∃ U, U = (u * 4294967296 + u1) % Y := ⟨_, rfl⟩
    have e17 : IntKind.u64.wrap (IntKind.u64.wrap (IntKind.u64.wrap ((u : Int) * 4294967296) + (u1 : Int)) - IntKind.u64.wrap ((Q : Int) * (Y : Int))) = (U : Int) := by
      rw [word_rest u u1 Q Y hQ hY0 hn2, hU]
    have bU : U < Y := by rw [hU]; exact Nat.mod_lt _ hY0
    have B6' := Lib.hid bU
    have b7' : U < 18446744073709551616 := by omega
    have g2 := Guess.start (v0 := v0) (u := U) (show 0 < v1 by omega) b5
    obtain ⟨q', hq'⟩ : ∃ q, q = U / v1 := ⟨_, rfl⟩
    have e22 : (U : Int) / (v1 : Int) = (q' : Int) := by rw [hq']; simp
    obtain ⟨r', hr'⟩ : ∃ q, q = U % v1 := ⟨_, rfl⟩
    rw [← hq', ← hr'] at g2
    have hrlt2 : r' < v1 := by rw [hr']; exact Nat.mod_lt _ (by omega)
    have HG2 := Lib.hid g2
    have HQ := Lib.hid hQ
    have HU := Lib.hid hU
    clear hQ hU g2 hq' hr' bU e1 e2 e3 e4 e5 e6 e7 e8
    go_upto_block 2 with fail
    go_cut [18, 16] (fun s18 s16 wx => s18 = .int .u64 ((U * 4294967296 + u0) / Y : Nat) ∧ w = wx)
    case first =>
      have bq : q' < 8589934592 := HG2.out.bound b2 b7'
      have ep : IntKind.u64.wrap (q' : Int) = q' := wrap_nat _ (by omega)
      have er : IntKind.u64.wrap ((U : Int) - IntKind.u64.wrap ((q' : Int) * v1)) = (r' : Int) := by
        have h := HG2.out.eq
        have : ((q' : Int) * v1) = ((q' * v1 : Nat) : Int) := by simp
        rw [this, wrap_nat _ (by omega), show ((U : Int) - ((q' * v1 : Nat) : Int)) = (r' : Int) by omega, wrap_nat _ (by omega)]
      have brr2 : r' < 4294967296 := by omega
      have HG20 := HG2.out
      go_wp2_with fail
      go_loop [18, 16] (fun s18 s16 => ∃ q' r' : Int, s18 = .int .u64 q' ∧ s16 = .int .u64 r' ∧ GuessI v1 v0 U u0 q' r') (fun s18 _ => (intOf s18).toNat)
      case atStart => exact ⟨q', r', by rw [ep], by rw [ep, er], ⟨HG2.out, by omega, by omega, by omega⟩⟩
      case round =>
        clear ep er bq brr2 HG20 e17 e22
        obtain ⟨q1, r1, rfl, rfl, hg⟩ := hrel
        obtain ⟨hg, hq0, hr0, hr1⟩ := hg
        have bq : q1 < 8589934592 := by have := hg.bound b2 b7'; omega
        by_cases hB : q1 < 4294967296
        · obtain ⟨Z, hZ⟩ : ∃ Z, Z = q1.toNat * v0 := ⟨_, rfl⟩
          have hZl : q1.toNat * v0 ≤ 18446744065119617025 := Nat.le_trans (Nat.mul_le_mul (show q1.toNat ≤ 4294967295 by omega) (show v0 ≤ 4294967295 by omega)) (by omega)
          have ez : IntKind.u64.wrap (q1 * v0) = (Z : Int) := by rw [show q1 * v0 = ((q1.toNat * v0 : Nat) : Int) by simp; rw [Int.max_eq_left hq0], wrap_nat _ (by omega), hZ]
          rw [← hZ] at hZl
          by_cases hC : 4294967296 * r1 + (u0 : Int) < (Z : Int)
          · obtain ⟨hq1, hg'⟩ := hg.step (by omega) (by rw [← HYe.out]; exact B6'.out) b5 (.inr (by rw [← hZ]; omega))
            by_cases hD : r1 + (v1 : Int) < 4294967296
            · have HG' : GuessI v1 v0 U u0 (q1 - 1) (r1 + v1) := ⟨by rw [show (q1 - 1).toNat = q1.toNat - 1 by omega, show (r1 + (v1 : Int)).toNat = r1.toNat + v1 by omega]; exact hg', by omega, by omega, by omega⟩
              clear hZ hg hg'
              go_wp2_with fail
              go_round
              case rel => exact ⟨q1 - 1, r1 + v1, rfl, rfl, HG'⟩
              case measure => simp [intOf]; omega
            · have hf := hg'.full (by omega) (by rw [← HYe.out]; exact B6'.out) b3 (by omega)
              have hq := hg'.done (by omega) hf.2
              have HQ := Lib.hid (show q1 - 1 = (((U * 4294967296 + u0) / Y : Nat) : Int) from by rw [HYe.out, ← hq]; omega)
              clear hZ hg hg' hf hq
              go_wp2_with fail
              go_meet
              exact ⟨by rw [HQ.out], rfl⟩
          · have hq := hg.done (by omega) (by rw [← hZ]; omega)
            have HQ := Lib.hid (show q1 = (((U * 4294967296 + u0) / Y : Nat) : Int) from by rw [HYe.out, ← hq]; omega)
            clear hZ hq hg
            go_wp2_with fail
            go_meet
            exact ⟨by rw [HQ.out], rfl⟩
        · obtain ⟨hq1, hg'⟩ := hg.step (by omega) (by rw [← HYe.out]; exact B6'.out) b5 (.inl (by omega))
          by_cases hD : r1 + (v1 : Int) < 4294967296
          · have HG' : GuessI v1 v0 U u0 (q1 - 1) (r1 + v1) := ⟨by rw [show (q1 - 1).toNat = q1.toNat - 1 by omega, show (r1 + (v1 : Int)).toNat = r1.toNat + v1 by omega]; exact hg', by omega, by omega, by omega⟩
            clear hg hg'
            go_wp2_with fail
            go_round
            case rel => exact ⟨q1 - 1, r1 + v1, rfl, rfl, HG'⟩
            case measure => simp [intOf]; omega
          · have hf := hg'.full (by omega) (by rw [← HYe.out]; exact B6'.out) b3 (by omega)
            have hq := hg'.done (by omega) hf.2
            have HQ := Lib.hid (show q1 - 1 = (((U * 4294967296 + u0) / Y : Nat) : Int) from by rw [HYe.out, ← hq]; omega)
            clear hg hg' hf hq
            go_wp2_with fail
            go_meet
            exact ⟨by rw [HQ.out], rfl⟩
    case rest =>
      obtain ⟨rfl, rfl⟩ := hcut
      obtain ⟨Q', hQ'⟩ : ∃ Q, Q = (U * 4294967296 + u0) / Y := ⟨_, rfl⟩
      rw [← hQ']
      have e18 : IntKind.u64.wrap (IntKind.u64.wrap (IntKind.u64.wrap ((U : Int) * 4294967296) + (u0 : Int)) - IntKind.u64.wrap ((Q' : Int) * (Y : Int))) = (((U * 4294967296 + u0) % Y : Nat) : Int) := word_rest U u0 Q' Y hQ' hY0 hn2
      clear e17 e22
      have HQ' := Lib.hid hQ'
      have E18 := Lib.hid e18
      clear e18 hQ'
      go_wp2_with fail
      go_ret2
      obtain ⟨a1, a2⟩ := HL.out.answers (show 0 < y by omega)
      rw [← HYs.out, ← HQ.out, ← HU.out, ← HQ'.out] at a1
      rw [← HYs.out, ← HU.out] at a2
      have hfit : (hi * 18446744073709551616 + lo) / y < 18446744073709551616 := by
        rw [Nat.div_lt_iff_lt_mul (by omega)]
        omega
      refine ⟨ret_two ?_ ?_, Drawn.refl _⟩
      · rw [← a1] at hfit ⊢
        simp only [IntKind.wrap_u64]
        omega
      · rw [E18.out, ← a2]
        simp
end Go.Proofs.Ytfoncfojljmimaa
