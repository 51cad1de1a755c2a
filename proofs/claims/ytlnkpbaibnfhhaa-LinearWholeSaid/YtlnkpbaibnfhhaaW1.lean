/- Merged texts: Base, DivN, Div, DivA, NT, ModS, ModB, ModAdd, ModSub, ModMul, ModPow, ModInv. -/
import Derived.WalkKit
import Derived.Lib.Hide
import Derived.Deep.QuietTactic
import Derived.BigQuiet
import Derived.Deep.DeepCutAuto
import Derived.Deep.CutBlock
import Derived.WalkLawsBesides
import Derived.Below
import Derived.Laws.BitsAllLaws
import Derived.Lib.BitFns
import Derived.RowKit
import Derived.Test.YtlnkpbaibnfhhaaShelf
set_option linter.unusedVariables false
set_option linter.unusedSimpArgs false
/- Small words for the walks: a world that only draws away from another; returns; quiet calls. -/
namespace Go.Proofs.Ytlnkpbaibnfhhaa
open Go.RowKit
/-- the world is the old one, some orders having been drawn -/
structure Drawn (w w' : World) : Prop where
  out : ∃ n, w' = w.drewN n
theorem Drawn.refl (w : World) : Drawn w w := ⟨⟨0, rfl⟩⟩
theorem Drawn.of (w : World) (n : Nat) : Drawn w (w.drewN n) := ⟨⟨n, rfl⟩⟩
theorem Drawn.trans {w w1 w2 : World} (h : Drawn w w1) (k : Drawn w1 w2) : Drawn w w2 := by
  obtain ⟨n, rfl⟩ := h.out
  obtain ⟨m, rfl⟩ := k.out
  exact ⟨⟨n + m, World.drewN_drewN ..⟩⟩
theorem Drawn.drewN {w w1 : World} (h : Drawn w w1) (n : Nat) : Drawn w (w1.drewN n) := h.trans (Drawn.of _ _)
theorem Drawn.below {w w' : World} (h : Drawn w w') : Below w.heap.size w w' := by
  obtain ⟨n, hn⟩ := h.out
  subst hn
  clear h
  induction n with
  | zero => exact Below.refl _ _
  | succ n ih => rw [← World.drew_drewN]; exact ih.drew
theorem Drawn.cell {w w' : World} (h : Drawn w w') (a : Addr) : w'.cell? a = w.cell? a := by
  obtain ⟨n, rfl⟩ := h.out
  simp
theorem ret_int {k : IntKind} {a b : Int} (h : a = b) : Ending.returned (.int k a) = .returned (.int k b) := by rw [h]
theorem ret_bool {a b : Bool} (h : a = b) : Ending.returned (.bool a) = .returned (.bool b) := by rw [h]
theorem ret_two {k l : IntKind} {a b c d : Int} (h1 : a = c) (h2 : b = d) : Ending.returned (.tuple #[.int k a, .int l b]) = Ending.returned (.tuple #[.int k c, .int l d]) := by rw [h1, h2]
theorem ret_int_bool {k : IntKind} {a c : Int} {b d : Bool} (h1 : a = c) (h2 : b = d) : Ending.returned (.tuple #[.int k a, .bool b]) = Ending.returned (.tuple #[.int k c, .bool d]) := by rw [h1, h2]
theorem quiet_drawn {P : Program} {f : FuncId} {args : Array Value} {w : World} {n : Nat} {v : Value}
    (h : Calls P f args (w.drewN n) fun e w' => e = .returned v ∧ Drawn (w.drewN n) w') : Calls P f args (w.drewN n) fun e w'' => e = .returned v ∧ ∃ m, w'' = w.drewN m :=
  h.mono fun _ _ ⟨he, ⟨m, hm⟩⟩ => ⟨he, n + m, by rw [hm, World.drewN_drewN]⟩
theorem quiet_same {P : Program} {f : FuncId} {args : Array Value} {w : World} {n : Nat} {v : Value}
    (h : Calls P f args (w.drewN n) fun e w' => e = .returned v ∧ w.drewN n = w') : Calls P f args (w.drewN n) fun e w'' => e = .returned v ∧ ∃ m, w'' = w.drewN m :=
  h.mono fun _ _ ⟨he, hm⟩ => ⟨he, n, hm.symm⟩
end Go.Proofs.Ytlnkpbaibnfhhaa
/- Plain arithmetic behind the division of two words by one word: no program in it. -/
namespace Go.Proofs.Ytlnkpbaibnfhhaa
namespace DivN
theorem wrap_nat (n : Nat) (h : n < 18446744073709551616) : IntKind.u64.wrap (n : Int) = (n : Int) := by
  rw [IntKind.wrap_u64]; omega
theorem bitLen_two : ∀ (k y : Nat), y < 2 ^ k → 0 < y → y < 18446744073709551616 → 1 ≤ Lib.bitLen y ∧ Lib.bitLen y ≤ 64 ∧ 2 ^ (Lib.bitLen y - 1) ≤ y ∧ y < 2 ^ Lib.bitLen y := by
  intro k
  induction k with
  | zero => intro y h h0; simp at h; omega
  | succ k ih =>
    intro y h h0 hy
    rw [Nat.pow_succ] at h
    have hb := Lib.bitLen_half y (by omega) hy
    by_cases h1 : y = 1
    · subst h1; decide
    · obtain ⟨a, b, c, d⟩ := ih (y / 2) (by omega) (by omega) (by omega)
      have hle := Lib.bitLen_le y 64 (by omega) hy
      rw [hb] at hle ⊢
      generalize Lib.bitLen (y / 2) = t at *
      obtain ⟨t, rfl⟩ : ∃ t', t = t' + 1 := ⟨t - 1, by omega⟩
      refine ⟨by omega, hle, ?_, ?_⟩
      · rw [show 1 + (t + 1) - 1 = t + 1 by omega, Nat.pow_succ]
        simp only [Nat.add_sub_cancel] at c
        omega
      · rw [show 1 + (t + 1) = (t + 1) + 1 by omega, Nat.pow_succ]
        omega
theorem norm (y : Nat) (h0 : 0 < y) (hy : y < 18446744073709551616) : ∃ s : Nat, s ≤ 63 ∧ 64 - (Lib.bitLen y : Int) = s ∧ 9223372036854775808 ≤ y * 2 ^ s ∧ y * 2 ^ s < 18446744073709551616 := by
  obtain ⟨a, b, c, d⟩ := bitLen_two 64 y hy h0 hy
  generalize Lib.bitLen y = t at *
  refine ⟨64 - t, by omega, by omega, ?_, ?_⟩
  · have : 2 ^ (t - 1) * 2 ^ (64 - t) = 9223372036854775808 := by
      rw [← Nat.pow_add, show t - 1 + (64 - t) = 63 by omega]
    rw [← this]
    exact Nat.mul_le_mul_right _ c
  · have : 2 ^ t * 2 ^ (64 - t) = 18446744073709551616 := by
      rw [← Nat.pow_add, show t + (64 - t) = 64 by omega]
    rw [← this]
    exact Nat.mul_lt_mul_of_pos_right d (Nat.two_pow_pos _)
theorem masked (n : Nat) (h : n < 18446744073709551616) : bits .and .u64 (n : Int) 4294967295 = ((n % 4294967296 : Nat) : Int) := by
  have := u64_and_nat n 4294967295 h (by decide)
  rw [show ((4294967295 : Nat) : Int) = 4294967295 from rfl] at this
  rw [this, show (4294967295 : Nat) = 2 ^ 32 - 1 from rfl, Nat.and_two_pow_sub_one_eq_mod]

/-- The two words, laid to the left. -/
structure Laid (hi lo y s u u1 u0 : Nat) : Prop where
  eq : (u * 4294967296 + u1) * 4294967296 + u0 = (hi * 18446744073709551616 + lo) * 2 ^ s
  lt : u < y * 2 ^ s
  l1 : u1 < 4294967296
  l0 : u0 < 4294967296
theorem low_split (lo s : Nat) (hs : s ≤ 63) (hlo : lo < 18446744073709551616) : lo / 2 ^ (64 - s) * 18446744073709551616 + lo * 2 ^ s % 18446744073709551616 = lo * 2 ^ s := by
  have e1 : lo * 2 ^ s / 18446744073709551616 = lo / 2 ^ (64 - s) := by
    have : 18446744073709551616 = 2 ^ (64 - s) * 2 ^ s := by rw [← Nat.pow_add, show 64 - s + s = 64 by omega]
    rw [this, Nat.mul_div_mul_right _ _ (Nat.two_pow_pos _)]
  rw [← e1, Nat.mul_comm]
  exact Nat.div_add_mod _ _
theorem laid (hi lo y s : Nat) (hhi : hi < y) (hlo : lo < 18446744073709551616) (hs : s ≤ 63) :
    Laid hi lo y s (hi * 2 ^ s + lo / 2 ^ (64 - s)) (lo * 2 ^ s % 18446744073709551616 / 4294967296) (lo * 2 ^ s % 18446744073709551616 % 4294967296) := by
  have e := low_split lo s hs hlo
  have e2 : (hi * 2 ^ s + lo / 2 ^ (64 - s)) * 18446744073709551616 + lo * 2 ^ s % 18446744073709551616 = (hi * 18446744073709551616 + lo) * 2 ^ s := by
    rw [Nat.add_mul, Nat.add_mul, Nat.add_assoc, e, Nat.mul_right_comm hi]
  generalize hL : lo * 2 ^ s % 18446744073709551616 = L at *
  have hLlt : L < 18446744073709551616 := by rw [← hL]; exact Nat.mod_lt _ (by omega)
  generalize hU : hi * 2 ^ s + lo / 2 ^ (64 - s) = U at *
  clear e
  have e3 : (U * 4294967296 + L / 4294967296) * 4294967296 + L % 4294967296 = U * 18446744073709551616 + L := by clear e2 hL hU; omega
  refine ⟨e3.trans e2, ?_, by clear e2 hL hU; omega, by clear e2 hL hU; omega⟩
  have h3 : (hi * 18446744073709551616 + lo) * 2 ^ s < (y * 18446744073709551616) * 2 ^ s := Nat.mul_lt_mul_of_pos_right (by omega) (Nat.two_pow_pos _)
  rw [Nat.mul_right_comm y] at h3
  generalize y * 2 ^ s = Y at *
  omega
/-- 'hi << s | lo >> (64 - s)' -/
theorem orr (hi lo y s : Nat) (hhi : hi < y) (hlo : lo < 18446744073709551616) (hs : s ≤ 63) (hY : y * 2 ^ s < 18446744073709551616) :
    hi * 2 ^ s < 18446744073709551616 ∧ lo / 2 ^ (64 - s) < 2 ^ s ∧ (hi * 2 ^ s ||| lo / 2 ^ (64 - s)) = hi * 2 ^ s + lo / 2 ^ (64 - s) := by
  have h1 : hi * 2 ^ s < y * 2 ^ s := Nat.mul_lt_mul_of_pos_right hhi (Nat.two_pow_pos _)
  have h2 : lo / 2 ^ (64 - s) < 2 ^ s := by
    rw [Nat.div_lt_iff_lt_mul (Nat.two_pow_pos _), ← Nat.pow_add, show s + (64 - s) = 64 by omega]
    exact hlo
  refine ⟨by omega, h2, ?_⟩
  rw [Nat.mul_comm hi, Nat.two_pow_add_eq_or_of_lt h2]
/-- The guess q, with what is left r, is right or too large. -/
structure Guess (v1 v0 u u1 q r : Nat) : Prop where
  eq : q * v1 + r = u
  ge : (u * 4294967296 + u1) / (v1 * 4294967296 + v0) ≤ q
structure GuessI (v1 v0 u u1 : Nat) (q r : Int) : Prop where
  g : Guess v1 v0 u u1 q.toNat r.toNat
  q0 : 0 ≤ q
  r0 : 0 ≤ r
  rl : r < 4294967296
variable {v1 v0 u u1 q r : Nat}
theorem Guess.start (hv : 0 < v1) (hu1 : u1 < 4294967296) : Guess v1 v0 u u1 (u / v1) (u % v1) := by
  refine ⟨by rw [Nat.mul_comm]; exact Nat.div_add_mod u v1, ?_⟩
  have h1 : (u * 4294967296 + u1) / (v1 * 4294967296 + v0) ≤ (u * 4294967296 + u1) / (v1 * 4294967296) := Nat.div_le_div_left (by omega) (by omega)
  rw [Nat.mul_comm v1, ← Nat.div_div_eq_div_mul] at h1
  rwa [show (u * 4294967296 + u1) / 4294967296 = u by omega, Nat.mul_comm 4294967296 v1] at h1
theorem Guess.mulE (h : Guess v1 v0 u u1 q r) : q * (v1 * 4294967296 + v0) + r * 4294967296 = u * 4294967296 + q * v0 := by
  rw [← h.eq, Nat.mul_add, ← Nat.mul_assoc]; omega
/-- The test says no: the guess is right. -/
theorem Guess.done (h : Guess v1 v0 u u1 q r) (hv : 0 < v1) (h2 : q * v0 ≤ 4294967296 * r + u1) : q = (u * 4294967296 + u1) / (v1 * 4294967296 + v0) := by
  have e := h.mulE
  refine Nat.le_antisymm ?_ h.ge
  rw [Nat.le_div_iff_mul_le (by omega)]
  generalize q * (v1 * 4294967296 + v0) = X at *
  generalize q * v0 = Z at *
  omega
/-- The test says yes: the guess is too large. -/
theorem Guess.step (h : Guess v1 v0 u u1 q r) (hv : 0 < v1) (hu : u < v1 * 4294967296 + v0) (hu1 : u1 < 4294967296) (h2 : 4294967296 ≤ q ∨ 4294967296 * r + u1 < q * v0) : 1 ≤ q ∧ Guess v1 v0 u u1 (q - 1) (r + v1) := by
  have hlt : (u * 4294967296 + u1) / (v1 * 4294967296 + v0) < q := by
    rw [Nat.div_lt_iff_lt_mul (by omega)]
    rcases h2 with h2 | h2
    · have : 4294967296 * (v1 * 4294967296 + v0) ≤ q * (v1 * 4294967296 + v0) := Nat.mul_le_mul_right _ h2
      omega
    · have e := h.mulE
      generalize q * (v1 * 4294967296 + v0) = X at *
      generalize q * v0 = Z at *
      omega
  have h1 : 1 ≤ q := Nat.lt_of_le_of_lt (Nat.zero_le _) hlt
  refine ⟨h1, ?_, Nat.le_sub_one_of_lt hlt⟩
  obtain ⟨q, rfl⟩ : ∃ p, q = p + 1 := ⟨q - 1, by omega⟩
  have := h.eq
  rw [Nat.add_mul] at this
  rw [Nat.add_sub_cancel]
  omega
/-- What is left has grown to a word's half: the guess is right. -/
theorem Guess.full (h : Guess v1 v0 u u1 q r) (hv : 0 < v1) (hu : u < v1 * 4294967296 + v0) (hv0 : v0 < 4294967296) (hr : 4294967296 ≤ r) : q < 4294967296 ∧ q * v0 ≤ 4294967296 * r + u1 := by
  have hq : q < 4294967296 := by
    have e := h.eq
    apply Nat.lt_of_mul_lt_mul_right (a := v1)
    generalize q * v1 = X at *
    omega
  have : q * v0 ≤ 4294967296 * 4294967296 := Nat.mul_le_mul (by omega) (by omega)
  exact ⟨hq, by omega⟩
theorem Guess.bound (h : Guess v1 v0 u u1 q r) (hv : 2147483648 ≤ v1) (hu : u < 18446744073709551616) : q < 8589934592 := by
  have e := h.eq
  have : q * 2147483648 ≤ q * v1 := Nat.mul_le_mul_left _ hv
  generalize q * v1 = X at *
  omega
theorem long_div (U u0 Y : Nat) (hY : 0 < Y) (_h : u0 < 4294967296) :
    (U * 4294967296 + u0) / Y = U / Y * 4294967296 + (U % Y * 4294967296 + u0) / Y ∧ (U * 4294967296 + u0) % Y = (U % Y * 4294967296 + u0) % Y := by
  have e : U * 4294967296 + u0 = (U % Y * 4294967296 + u0) + Y * (U / Y * 4294967296) := by
    have := Nat.div_add_mod U Y
    rw [← Nat.mul_assoc]
    generalize Y * (U / Y) = A at *
    omega
  rw [e, Nat.add_mul_div_left _ _ hY, Nat.add_mul_mod_self_left]
  exact ⟨Nat.add_comm _ _, rfl⟩
/-- both answers, of the parts -/
theorem Laid.answers {hi lo y s u u1 u0 : Nat} (h : Laid hi lo y s u u1 u0) (hy : 0 < y) :
    (u * 4294967296 + u1) / (y * 2 ^ s) * 4294967296 + ((u * 4294967296 + u1) % (y * 2 ^ s) * 4294967296 + u0) / (y * 2 ^ s) = (hi * 18446744073709551616 + lo) / y ∧
    ((u * 4294967296 + u1) % (y * 2 ^ s) * 4294967296 + u0) % (y * 2 ^ s) / 2 ^ s = (hi * 18446744073709551616 + lo) % y := by
  have hp := Nat.two_pow_pos s
  obtain ⟨e1, e2⟩ := long_div (u * 4294967296 + u1) u0 (y * 2 ^ s) (Nat.mul_pos hy hp) h.l0
  rw [← e1, ← e2, h.eq, Nat.mul_div_mul_right _ _ hp, Nat.mul_mod_mul_right, Nat.mul_div_cancel _ hp]
  exact ⟨rfl, rfl⟩
/-- 'u * B + d - q * y' in words -/
theorem rest (A Y q : Nat) (hq : q = A / Y) (hY : 0 < Y) (hY2 : Y < 18446744073709551616) : ((A : Int) - (q : Int) * (Y : Int)) % 18446744073709551616 = ((A % Y : Nat) : Int) := by
  have h := Nat.div_add_mod A Y
  have hl := Nat.mod_lt A hY
  have e : (A : Int) - (q : Int) * (Y : Int) = ((A % Y : Nat) : Int) := by
    subst hq
    have : (A : Int) = (Y : Int) * ((A / Y : Nat) : Int) + ((A % Y : Nat) : Int) := by exact_mod_cast h.symm
    rw [Int.mul_comm ((A / Y : Nat) : Int)]
    omega
  rw [e]
  omega
theorem word_rest (u u1 Q Y : Nat) (hQ : Q = (u * 4294967296 + u1) / Y) (hY : 0 < Y) (hY2 : Y < 18446744073709551616) :
    IntKind.u64.wrap (IntKind.u64.wrap (IntKind.u64.wrap ((u : Int) * 4294967296) + (u1 : Int)) - IntKind.u64.wrap ((Q : Int) * (Y : Int))) = (((u * 4294967296 + u1) % Y : Nat) : Int) := by
  have h := rest (u * 4294967296 + u1) Y Q hQ hY hY2
  rw [← h]
  simp only [IntKind.wrap_u64]
  rw [show ((u * 4294967296 + u1 : Nat) : Int) = (u : Int) * 4294967296 + (u1 : Int) by omega]
  generalize (Q : Int) * (Y : Int) = P
  omega
end DivN
end Go.Proofs.Ytlnkpbaibnfhhaa
/- math/bits.Div64: the quotient and the remainder of a number of two words by one word, where the quotient fits. -/
namespace Go.Proofs.Ytlnkpbaibnfhhaa
open Go.RowKit DivN
theorem lz (y : Nat) (h0 : 0 < y) (hy : y < 18446744073709551616) (w : World) :
    Calls Try.prog 68 #[.int .u64 y] w fun e w' => (∃ s : Nat, e = .returned (.int .i64 s) ∧ s ≤ 63 ∧ 9223372036854775808 ≤ y * 2 ^ s ∧ y * 2 ^ s < 18446744073709551616) ∧ w = w' := by
  obtain ⟨s, h1, h2, h3, h4⟩ := norm y h0 hy
  refine (Try.bits_LeadingZeros64 y w (by omega) (by omega)).mono ?_
  rintro e w' ⟨rfl, rfl⟩
  exact ⟨⟨s, by rw [← h2]; rfl, h1, h3, h4⟩, rfl⟩
set_option maxRecDepth 100000 in
set_option maxHeartbeats 4000000 in
theorem div64 (hi lo y : Nat) (hhi : hi < y) (hlo : lo < 18446744073709551616) (hy : y < 18446744073709551616) (h0 : ((hi : Int) == 0) = false) (w : World) :
    Calls Try.prog 66 #[.int .u64 hi, .int .u64 lo, .int .u64 y] w fun e w' => e = .returned (.tuple #[.int .u64 ((hi * 18446744073709551616 + lo) / y : Nat), .int .u64 ((hi * 18446744073709551616 + lo) % y : Nat)]) ∧ Drawn w w' := by
  have h1 : ((y : Int) == 0) = false := by rw [beq_eq_false_iff_ne]; omega
  have h2 : decide ((y : Int) ≤ hi) = false := by simp; omega
  go_enter Try.func66, Try.ntmps66
  go_wp2_with fail
  refine (lz _ (by omega) (by omega) _).mono ?_
  rintro e w' ⟨⟨s, rfl, hs, hn1, hn2⟩, rfl⟩
  have hlaid := laid hi lo y s hhi hlo hs
  obtain ⟨ho1, ho2, ho3⟩ := orr hi lo y s hhi hlo hs hn2
  obtain ⟨Y, hY⟩ : ∃ Y, Y = y * 2 ^ s := ⟨_, rfl⟩
  have e1 : IntKind.u64.wrap ((y : Int) * 2 ^ s) = (Y : Int) := by rw [hY, ← wrap_nat _ hn2]; simp
  have hYlt : hi * 2 ^ s + lo / 2 ^ (64 - s) < Y := by rw [hY]; exact hlaid.lt
  rw [← hY] at hn1 hn2
  obtain ⟨u, hu⟩ : ∃ u, u = hi * 2 ^ s + lo / 2 ^ (64 - s) := ⟨_, rfl⟩
  have e4 : bits .or .u64 (IntKind.u64.wrap ((hi : Int) * 2 ^ s)) ((lo : Int) / 2 ^ (64 - s)) = (u : Int) := by
    have a1 : IntKind.u64.wrap ((hi : Int) * 2 ^ s) = ((hi * 2 ^ s : Nat) : Int) := by rw [← wrap_nat _ ho1]; simp
    have a2 : ((lo : Int) / 2 ^ (64 - s)) = ((lo / 2 ^ (64 - s) : Nat) : Int) := by simp
    have a3 : lo / 2 ^ (64 - s) ≤ lo := Nat.div_le_self _ _
    rw [a1, a2, u64_or_nat _ _ ho1 (by omega), ho3, hu]
  obtain ⟨L, hL⟩ : ∃ L, L = lo * 2 ^ s % 18446744073709551616 := ⟨_, rfl⟩
  have e5 : IntKind.u64.wrap ((lo : Int) * 2 ^ s) = (L : Int) := by rw [hL, IntKind.wrap_u64]; simp
  have hLlt : L < 18446744073709551616 := by rw [hL]; exact Nat.mod_lt _ (by omega)
  rw [← hu] at hlaid hYlt
  rw [← hL] at hlaid
  obtain ⟨v1, hv1⟩ : ∃ v, v = Y / 4294967296 := ⟨_, rfl⟩
  obtain ⟨v0, hv0⟩ : ∃ v, v = Y % 4294967296 := ⟨_, rfl⟩
  obtain ⟨u1, hu1⟩ : ∃ v, v = L / 4294967296 := ⟨_, rfl⟩
  obtain ⟨u0, hu0⟩ : ∃ v, v = L % 4294967296 := ⟨_, rfl⟩
  have e2 : (Y : Int) / 4294967296 = (v1 : Int) := by omega
  have e3 : bits .and .u64 (Y : Int) 4294967295 = (v0 : Int) := by rw [masked _ hn2, hv0]
  have e6 : (L : Int) / 4294967296 = (u1 : Int) := by omega
  have e7 : bits .and .u64 (L : Int) 4294967295 = (u0 : Int) := by rw [masked _ hLlt, hu0]
  rw [← hu1, ← hu0] at hlaid
  have b1 : v1 < 4294967296 := by omega
  have b2 : 2147483648 ≤ v1 := by omega
  have b3 : v0 < 4294967296 := by omega
  have b4 : u1 < 4294967296 := by omega
  have b5 : u0 < 4294967296 := by omega
  have b6' : u < v1 * 4294967296 + v0 := by omega
  have HY : Y = v1 * 4294967296 + v0 := by omega
  have b7 : u < 18446744073709551616 := by omega
  have g := Guess.start (v0 := v0) (u := u) (show 0 < v1 by omega) b4
  rw [← HY] at b6'
  obtain ⟨q, hq⟩ : ∃ q, q = u / v1 := ⟨_, rfl⟩
  have e8 : (u : Int) / (v1 : Int) = (q : Int) := by rw [hq]; simp
  obtain ⟨r, hr⟩ : ∃ q, q = u % v1 := ⟨_, rfl⟩
  rw [← hq, ← hr] at g
  have HL := Lib.hid hlaid
  have HG := Lib.hid g
  have HYe := Lib.hid HY
  have HYs := Lib.hid hY
  have hrlt : r < v1 := by rw [hr]; exact Nat.mod_lt _ (by omega)
  have B6 := Lib.hid b6'
  have hY0 : 0 < Y := by omega
  clear hlaid g HY hY hq hr hv1 hv0 hu1 hu0 hu hL ho1 ho2 ho3 hn1 hYlt b6'
  go_upto_block 0 with fail
  go_cut [15, 16] (fun s15 s16 wx => s15 = .int .u64 ((u * 4294967296 + u1) / Y : Nat) ∧ w = wx)
  case first =>
    have bq : q < 8589934592 := HG.out.bound b2 b7
    have ep : IntKind.u64.wrap (q : Int) = q := wrap_nat _ (by omega)
    have er : IntKind.u64.wrap ((u : Int) - IntKind.u64.wrap ((q : Int) * v1)) = (r : Int) := by
      have h := HG.out.eq
      have : ((q : Int) * v1) = ((q * v1 : Nat) : Int) := by simp
      rw [this, wrap_nat _ (by omega), show ((u : Int) - ((q * v1 : Nat) : Int)) = (r : Int) by omega, wrap_nat _ (by omega)]
    have brr : r < 4294967296 := by omega
    have HG0 := HG.out
    go_wp2_with fail
    go_loop [15, 16] (fun s15 s16 => ∃ q r : Int, s15 = .int .u64 q ∧ s16 = .int .u64 r ∧ GuessI v1 v0 u u1 q r) (fun s15 _ => (intOf s15).toNat)
    case atStart => exact ⟨q, r, by rw [ep], by rw [ep, er], ⟨HG.out, by omega, by omega, by omega⟩⟩
    case round =>
      clear ep er bq brr HG0 e1 e2 e3 e4 e5 e6 e7 e8
      obtain ⟨q1, r1, rfl, rfl, hg⟩ := hrel
      obtain ⟨hg, hq0, hr0, hr1⟩ := hg
      have bq : q1 < 8589934592 := by have := hg.bound b2 b7; omega
      by_cases hB : q1 < 4294967296
      · obtain ⟨Z, hZ⟩ : ∃ Z, Z = q1.toNat * v0 := ⟨_, rfl⟩
        have hZl : q1.toNat * v0 ≤ 18446744065119617025 := Nat.le_trans (Nat.mul_le_mul (show q1.toNat ≤ 4294967295 by omega) (show v0 ≤ 4294967295 by omega)) (by omega)
        have ez : IntKind.u64.wrap (q1 * v0) = (Z : Int) := by rw [show q1 * v0 = ((q1.toNat * v0 : Nat) : Int) by simp; rw [Int.max_eq_left hq0], wrap_nat _ (by omega), hZ]
        rw [← hZ] at hZl
        by_cases hC : 4294967296 * r1 + (u1 : Int) < (Z : Int)
        · obtain ⟨hq1, hg'⟩ := hg.step (by omega) (by rw [← HYe.out]; exact B6.out) b4 (.inr (by rw [← hZ]; omega))
          by_cases hD : r1 + (v1 : Int) < 4294967296
          · have HG' : GuessI v1 v0 u u1 (q1 - 1) (r1 + v1) := ⟨by rw [show (q1 - 1).toNat = q1.toNat - 1 by omega, show (r1 + (v1 : Int)).toNat = r1.toNat + v1 by omega]; exact hg', by omega, by omega, by omega⟩
            clear hZ hg hg'
            go_wp2_with fail
            go_round
            case rel => exact ⟨q1 - 1, r1 + v1, rfl, rfl, HG'⟩
            case measure => simp [intOf]; omega
          · have hf := hg'.full (by omega) (by rw [← HYe.out]; exact B6.out) b3 (by omega)
            have hq := hg'.done (by omega) hf.2
            have HQ := Lib.hid (show q1 - 1 = (((u * 4294967296 + u1) / Y : Nat) : Int) from by rw [HYe.out, ← hq]; omega)
            clear hZ hg hg' hf hq
            go_wp2_with fail
            go_meet
            exact ⟨by rw [HQ.out], rfl⟩
        · have hq := hg.done (by omega) (by rw [← hZ]; omega)
          have HQ := Lib.hid (show q1 = (((u * 4294967296 + u1) / Y : Nat) : Int) from by rw [HYe.out, ← hq]; omega)
          clear hZ hq hg
          go_wp2_with fail
          go_meet
          exact ⟨by rw [HQ.out], rfl⟩
      · obtain ⟨hq1, hg'⟩ := hg.step (by omega) (by rw [← HYe.out]; exact B6.out) b4 (.inl (by omega))
        by_cases hD : r1 + (v1 : Int) < 4294967296
        · have HG' : GuessI v1 v0 u u1 (q1 - 1) (r1 + v1) := ⟨by rw [show (q1 - 1).toNat = q1.toNat - 1 by omega, show (r1 + (v1 : Int)).toNat = r1.toNat + v1 by omega]; exact hg', by omega, by omega, by omega⟩
          clear hg hg'
          go_wp2_with fail
          go_round
          case rel => exact ⟨q1 - 1, r1 + v1, rfl, rfl, HG'⟩
          case measure => simp [intOf]; omega
        · have hf := hg'.full (by omega) (by rw [← HYe.out]; exact B6.out) b3 (by omega)
          have hq := hg'.done (by omega) hf.2
          have HQ := Lib.hid (show q1 - 1 = (((u * 4294967296 + u1) / Y : Nat) : Int) from by rw [HYe.out, ← hq]; omega)
          clear hg hg' hf hq
          go_wp2_with fail
          go_meet
          exact ⟨by rw [HQ.out], rfl⟩
  case rest =>
    obtain ⟨rfl, rfl⟩ := hcut
    obtain ⟨Q, hQ⟩ : ∃ Q, Q = (u * 4294967296 + u1) / Y := ⟨_, rfl⟩
    rw [← hQ]
    obtain ⟨U, hU⟩ : ∃ U, U = (u * 4294967296 + u1) % Y := ⟨_, rfl⟩
    have e17 : IntKind.u64.wrap (IntKind.u64.wrap (IntKind.u64.wrap ((u : Int) * 4294967296) + (u1 : Int)) - IntKind.u64.wrap ((Q : Int) * (Y : Int))) = (U : Int) := by
      rw [word_rest u u1 Q Y hQ hY0 hn2, hU]
    have bU : U < Y := by rw [hU]; exact Nat.mod_lt _ hY0
    have B6' := Lib.hid bU
    have b7' : U < 18446744073709551616 := by omega
    have g2 := Guess.start (v0 := v0) (u := U) (show 0 < v1 by omega) b5
    obtain ⟨q', hq'⟩ : ∃ q, q = U / v1 := ⟨_, rfl⟩
    have e22 : (U : Int) / (v1 : Int) = (q' : Int) := by rw [hq']; simp
    obtain ⟨r', hr'⟩ : ∃ q, q = U % v1 := ⟨_, rfl⟩
    rw [← hq', ← hr'] at g2
    have hrlt2 : r' < v1 := by rw [hr']; exact Nat.mod_lt _ (by omega)
    have HG2 := Lib.hid g2
    have HQ := Lib.hid hQ
    have HU := Lib.hid hU
    clear hQ hU g2 hq' hr' bU e1 e2 e3 e4 e5 e6 e7 e8
    go_upto_block 2 with fail
    go_cut [18, 16] (fun s18 s16 wx => s18 = .int .u64 ((U * 4294967296 + u0) / Y : Nat) ∧ w = wx)
    case first =>
      have bq : q' < 8589934592 := HG2.out.bound b2 b7'
      have ep : IntKind.u64.wrap (q' : Int) = q' := wrap_nat _ (by omega)
      have er : IntKind.u64.wrap ((U : Int) - IntKind.u64.wrap ((q' : Int) * v1)) = (r' : Int) := by
        have h := HG2.out.eq
        have : ((q' : Int) * v1) = ((q' * v1 : Nat) : Int) := by simp
        rw [this, wrap_nat _ (by omega), show ((U : Int) - ((q' * v1 : Nat) : Int)) = (r' : Int) by omega, wrap_nat _ (by omega)]
      have brr2 : r' < 4294967296 := by omega
      have HG20 := HG2.out
      go_wp2_with fail
      go_loop [18, 16] (fun s18 s16 => ∃ q' r' : Int, s18 = .int .u64 q' ∧ s16 = .int .u64 r' ∧ GuessI v1 v0 U u0 q' r') (fun s18 _ => (intOf s18).toNat)
      case atStart => exact ⟨q', r', by rw [ep], by rw [ep, er], ⟨HG2.out, by omega, by omega, by omega⟩⟩
      case round =>
        clear ep er bq brr2 HG20 e17 e22
        obtain ⟨q1, r1, rfl, rfl, hg⟩ := hrel
        obtain ⟨hg, hq0, hr0, hr1⟩ := hg
        have bq : q1 < 8589934592 := by have := hg.bound b2 b7'; omega
        by_cases hB : q1 < 4294967296
        · obtain ⟨Z, hZ⟩ : ∃ Z, Z = q1.toNat * v0 := ⟨_, rfl⟩
          have hZl : q1.toNat * v0 ≤ 18446744065119617025 := Nat.le_trans (Nat.mul_le_mul (show q1.toNat ≤ 4294967295 by omega) (show v0 ≤ 4294967295 by omega)) (by omega)
          have ez : IntKind.u64.wrap (q1 * v0) = (Z : Int) := by rw [show q1 * v0 = ((q1.toNat * v0 : Nat) : Int) by simp; rw [Int.max_eq_left hq0], wrap_nat _ (by omega), hZ]
          rw [← hZ] at hZl
          by_cases hC : 4294967296 * r1 + (u0 : Int) < (Z : Int)
          · obtain ⟨hq1, hg'⟩ := hg.step (by omega) (by rw [← HYe.out]; exact B6'.out) b5 (.inr (by rw [← hZ]; omega))
            by_cases hD : r1 + (v1 : Int) < 4294967296
            · have HG' : GuessI v1 v0 U u0 (q1 - 1) (r1 + v1) := ⟨by rw [show (q1 - 1).toNat = q1.toNat - 1 by omega, show (r1 + (v1 : Int)).toNat = r1.toNat + v1 by omega]; exact hg', by omega, by omega, by omega⟩
              clear hZ hg hg'
              go_wp2_with fail
              go_round
              case rel => exact ⟨q1 - 1, r1 + v1, rfl, rfl, HG'⟩
              case measure => simp [intOf]; omega
            · have hf := hg'.full (by omega) (by rw [← HYe.out]; exact B6'.out) b3 (by omega)
              have hq := hg'.done (by omega) hf.2
              have HQ := Lib.hid (show q1 - 1 = (((U * 4294967296 + u0) / Y : Nat) : Int) from by rw [HYe.out, ← hq]; omega)
              clear hZ hg hg' hf hq
              go_wp2_with fail
              go_meet
              exact ⟨by rw [HQ.out], rfl⟩
          · have hq := hg.done (by omega) (by rw [← hZ]; omega)
            have HQ := Lib.hid (show q1 = (((U * 4294967296 + u0) / Y : Nat) : Int) from by rw [HYe.out, ← hq]; omega)
            clear hZ hq hg
            go_wp2_with fail
            go_meet
            exact ⟨by rw [HQ.out], rfl⟩
        · obtain ⟨hq1, hg'⟩ := hg.step (by omega) (by rw [← HYe.out]; exact B6'.out) b5 (.inl (by omega))
          by_cases hD : r1 + (v1 : Int) < 4294967296
          · have HG' : GuessI v1 v0 U u0 (q1 - 1) (r1 + v1) := ⟨by rw [show (q1 - 1).toNat = q1.toNat - 1 by omega, show (r1 + (v1 : Int)).toNat = r1.toNat + v1 by omega]; exact hg', by omega, by omega, by omega⟩
            clear hg hg'
            go_wp2_with fail
            go_round
            case rel => exact ⟨q1 - 1, r1 + v1, rfl, rfl, HG'⟩
            case measure => simp [intOf]; omega
          · have hf := hg'.full (by omega) (by rw [← HYe.out]; exact B6'.out) b3 (by omega)
            have hq := hg'.done (by omega) hf.2
            have HQ := Lib.hid (show q1 - 1 = (((U * 4294967296 + u0) / Y : Nat) : Int) from by rw [HYe.out, ← hq]; omega)
            clear hg hg' hf hq
            go_wp2_with fail
            go_meet
            exact ⟨by rw [HQ.out], rfl⟩
    case rest =>
      obtain ⟨rfl, rfl⟩ := hcut
      obtain ⟨Q', hQ'⟩ : ∃ Q, Q = (U * 4294967296 + u0) / Y := ⟨_, rfl⟩
      rw [← hQ']
      have e18 : IntKind.u64.wrap (IntKind.u64.wrap (IntKind.u64.wrap ((U : Int) * 4294967296) + (u0 : Int)) - IntKind.u64.wrap ((Q' : Int) * (Y : Int))) = (((U * 4294967296 + u0) % Y : Nat) : Int) := word_rest U u0 Q' Y hQ' hY0 hn2
      clear e17 e22
      have HQ' := Lib.hid hQ'
      have E18 := Lib.hid e18
      clear e18 hQ'
      go_wp2_with fail
      go_ret2
      obtain ⟨a1, a2⟩ := HL.out.answers (show 0 < y by omega)
      rw [← HYs.out, ← HQ.out, ← HU.out, ← HQ'.out] at a1
      rw [← HYs.out, ← HU.out] at a2
      have hfit : (hi * 18446744073709551616 + lo) / y < 18446744073709551616 := by
        rw [Nat.div_lt_iff_lt_mul (by omega)]
        omega
      refine ⟨ret_two ?_ ?_, Drawn.refl _⟩
      · rw [← a1] at hfit ⊢
        simp only [IntKind.wrap_u64]
        omega
      · rw [E18.out, ← a2]
        simp
end Go.Proofs.Ytlnkpbaibnfhhaa
/- math/bits.Div64 at every high word below the divisor. -/
namespace Go.Proofs.Ytlnkpbaibnfhhaa
open Go.RowKit DivN
set_option maxRecDepth 100000 in
theorem div64_low (lo y : Nat) (hy0 : 0 < y) (hlo : lo < 18446744073709551616) (hy : y < 18446744073709551616) (w : World) :
    Calls Try.prog 66 #[.int .u64 0, .int .u64 lo, .int .u64 y] w fun e w' => e = .returned (.tuple #[.int .u64 (lo / y : Nat), .int .u64 (lo % y : Nat)]) ∧ Drawn w w' := by
  have h1 : ((y : Int) == 0) = false := by rw [beq_eq_false_iff_ne]; omega
  have h2 : decide ((y : Int) ≤ 0) = false := by simp; omega
  go_enter Try.func66, Try.ntmps66
  go_wp2_with fail
  go_quiet (fail)
  all_goals
    go_wp2_with fail
    go_ret2
    exact ⟨ret_two (by rw [show (lo : Int) / (y : Int) = ((lo / y : Nat) : Int) by simp]; exact wrap_nat _ (Nat.lt_of_le_of_lt (Nat.div_le_self _ _) hlo)) (by simp), Drawn.of _ _⟩
/-- every hi below y -/
theorem div64_any (hi lo y : Nat) (hhi : hi < y) (hlo : lo < 18446744073709551616) (hy : y < 18446744073709551616) (w : World) :
    Calls Try.prog 66 #[.int .u64 hi, .int .u64 lo, .int .u64 y] w fun e w' => e = .returned (.tuple #[.int .u64 ((hi * 18446744073709551616 + lo) / y : Nat), .int .u64 ((hi * 18446744073709551616 + lo) % y : Nat)]) ∧ Drawn w w' := by
  by_cases h : hi = 0
  · subst h
    have := div64_low lo y (by omega) hlo hy w
    simpa using this
  · exact div64 hi lo y hhi hlo hy (by rw [beq_eq_false_iff_ne]; omega) w
end Go.Proofs.Ytlnkpbaibnfhhaa
/- Plain number theory: congruence, primitive roots out of Lucas' conditions, primes, Fermat; inverses by Euclid's way. No program in it. -/
namespace Go.Proofs.Ytlnkpbaibnfhhaa
namespace NT

def Prime (n : Nat) : Prop := 2 ≤ n ∧ ∀ d, d ∣ n → d = 1 ∨ d = n

theorem least (P : Nat → Prop) : (∃ n, P n) → ∃ n, P n ∧ ∀ m, m < n → ¬ P m := by
  intro ⟨n, hn⟩
  induction n using Nat.strongRecOn with
  | _ n ih =>
    by_cases h : ∃ m, m < n ∧ P m
    · obtain ⟨m, hm, hp⟩ := h
      exact ih m hm hp
    · exact ⟨n, hn, fun m hm hp => h ⟨m, hm, hp⟩⟩

theorem prime_dvd (n : Nat) (h : 2 ≤ n) : ∃ p, Prime p ∧ p ∣ n := by
  obtain ⟨p, ⟨hp2, hpn⟩, hl⟩ := least (fun d => 2 ≤ d ∧ d ∣ n) ⟨n, h, Nat.dvd_refl n⟩
  refine ⟨p, ⟨hp2, fun d hd => ?_⟩, hpn⟩
  have hdn : d ∣ n := Nat.dvd_trans hd hpn
  have hdp : d ≤ p := Nat.le_of_dvd (by omega) hd
  by_cases h2 : 2 ≤ d
  · by_cases he : d = p
    · exact .inr he
    · exact absurd ⟨h2, hdn⟩ (hl d (by omega))
  · have : d ≠ 0 := by
      intro h0; subst h0
      have := Nat.eq_zero_of_zero_dvd hd; omega
    left; omega

theorem Prime.dvd_mul {p a b : Nat} (hp : Prime p) (h : p ∣ a * b) : p ∣ a ∨ p ∣ b := by
  rcases hp.2 (Nat.gcd p a) (Nat.gcd_dvd_left p a) with h1 | h1
  · exact .inr (Nat.Coprime.dvd_of_dvd_mul_left (k := p) (m := a) (n := b) h1 h)
  · left
    have := Nat.gcd_dvd_right p a
    rwa [h1] at this

theorem Prime.dvd_pow {p a : Nat} (hp : Prime p) : ∀ {k : Nat}, p ∣ a ^ k → p ∣ a := by
  intro k
  induction k with
  | zero => intro h; simp at h; have := hp.1; omega
  | succ k ih =>
    intro h
    rw [Nat.pow_succ] at h
    rcases hp.dvd_mul h with h | h
    · exact ih h
    · exact h

theorem pigeon : ∀ (N : Nat) (f : Nat → Nat), (∀ i, i < N → f i < N) → (∀ i j, i < N → j < N → f i = f j → i = j) →
    ∀ y, y < N → ∃ i, i < N ∧ f i = y := by
  intro N
  induction N with
  | zero => intro f _ _ y hy; omega
  | succ N ih =>
    intro f hf hi y hy
    have hv : f N < N + 1 := hf N (by omega)
    have key := ih (fun i => if f i = N then f N else f i)
      (by
        intro i hiN
        split
        · rename_i h
          have hne : f N ≠ N := by
            intro e
            have := hi i N (by omega) (by omega) (by omega)
            omega
          omega
        · have := hf i (by omega); omega)
      (by
        intro i j hiN hjN
        split <;> split
        · rename_i h1 h2; intro _; exact hi i j (by omega) (by omega) (by omega)
        · rename_i h1 h2; intro h; have := hi N j (by omega) (by omega) h; omega
        · rename_i h1 h2; intro h; have := hi i N (by omega) (by omega) h; omega
        · intro h; exact hi i j (by omega) (by omega) h)
    by_cases h1 : y = f N
    · exact ⟨N, by omega, h1.symm⟩
    · by_cases h2 : y = N
      · obtain ⟨i, hiN, he⟩ := key (f N) (by omega)
        split at he
        · rename_i h; exact ⟨i, by omega, by omega⟩
        · have := hi i N (by omega) (by omega) he; omega
      · obtain ⟨i, hiN, he⟩ := key y (by omega)
        split at he
        · omega
        · exact ⟨i, by omega, he⟩

/-! congruence -/
def Cg (n a b : Nat) : Prop := a % n = b % n
theorem Cg.refl (n a : Nat) : Cg n a a := rfl
theorem Cg.symm {n a b : Nat} (h : Cg n a b) : Cg n b a := Eq.symm h
theorem Cg.trans {n a b c : Nat} (h : Cg n a b) (k : Cg n b c) : Cg n a c := Eq.trans h k
theorem Cg.mod (n a : Nat) : Cg n (a % n) a := Nat.mod_mod a n
theorem Cg.mul {n a b c d : Nat} (h : Cg n a b) (k : Cg n c d) : Cg n (a * c) (b * d) := by
  unfold Cg at *; rw [Nat.mul_mod, h, k, ← Nat.mul_mod]
theorem Cg.add {n a b c d : Nat} (h : Cg n a b) (k : Cg n c d) : Cg n (a + c) (b + d) := by
  unfold Cg at *; rw [Nat.add_mod, h, k, ← Nat.add_mod]
theorem Cg.pow {n a b : Nat} (h : Cg n a b) (k : Nat) : Cg n (a ^ k) (b ^ k) := by
  unfold Cg at *; rw [Nat.pow_mod, h, ← Nat.pow_mod]
theorem Cg.one {n a : Nat} (h2 : 2 ≤ n) : Cg n a 1 ↔ a % n = 1 := by
  unfold Cg; rw [Nat.mod_eq_of_lt (show 1 < n by omega)]
theorem Cg.powmul {n a e : Nat} (h : Cg n (a ^ e) 1) (k : Nat) : Cg n (a ^ (e * k)) 1 := by
  rw [Nat.pow_mul]
  have := h.pow k
  rwa [Nat.one_pow] at this
/-- what has an inverse is cancelled -/
theorem Cg.cancel {n a u x y : Nat} (hu : Cg n (u * a) 1) (h : Cg n (a * x) (a * y)) : Cg n x y := by
  have h1 : Cg n (u * (a * x)) (u * (a * y)) := (Cg.refl n u).mul h
  rw [← Nat.mul_assoc, ← Nat.mul_assoc] at h1
  have hx : Cg n (u * a * x) (1 * x) := hu.mul (Cg.refl n x)
  have hy : Cg n (u * a * y) (1 * y) := hu.mul (Cg.refl n y)
  rw [Nat.one_mul] at hx hy
  exact hx.symm.trans (h1.trans hy)
theorem Cg.eq {n a b : Nat} (h : Cg n a b) (ha : a < n) (hb : b < n) : a = b := by
  unfold Cg at h; rwa [Nat.mod_eq_of_lt ha, Nat.mod_eq_of_lt hb] at h

/-- A primitive root: its powers below n - 1 are all numbers from 1 to n - 1. -/
structure Root (n g : Nat) : Prop where
  two : 2 ≤ n
  one : Cg n (g ^ (n - 1)) 1
  least : ∀ k, 0 < k → k < n - 1 → ¬ Cg n (g ^ k) 1

theorem order_dvd {n a d e : Nat} (hd : Cg n (a ^ d) 1) (hpos : 0 < d) (hl : ∀ k, 0 < k → k < d → ¬ Cg n (a ^ k) 1) (he : Cg n (a ^ e) 1) : d ∣ e := by
  have h1 : Cg n (a ^ (d * (e / d) + e % d)) 1 := by rw [Nat.div_add_mod]; exact he
  rw [Nat.pow_add] at h1
  have h2 : Cg n (a ^ (d * (e / d)) * a ^ (e % d)) (1 * a ^ (e % d)) := (hd.powmul (e / d)).mul (Cg.refl n _)
  rw [Nat.one_mul] at h2
  have h3 := h2.symm.trans h1
  have hlt := Nat.mod_lt e hpos
  rcases Nat.eq_zero_or_pos (e % d) with h0 | h0
  · exact Nat.dvd_of_mod_eq_zero h0
  · exact absurd h3 (hl _ h0 hlt)

theorem root_of_lucas {n a : Nat} (h2 : 2 ≤ n) (h1 : Cg n (a ^ (n - 1)) 1) (hq : ∀ q, Prime q → q ∣ n - 1 → ¬ Cg n (a ^ ((n - 1) / q)) 1) : Root n a := by
  refine ⟨h2, h1, ?_⟩
  by_cases hn : n = 2
  · subst hn; intro k h0 hk; omega
  obtain ⟨d, ⟨hd0, hd⟩, hl⟩ := NT.least (fun d => 0 < d ∧ Cg n (a ^ d) 1) ⟨n - 1, by omega, h1⟩
  have hdv : d ∣ n - 1 := order_dvd hd hd0 (fun k hk hkd hc => hl k hkd ⟨hk, hc⟩) h1
  have hde : d = n - 1 := by
    obtain ⟨c, hc⟩ := hdv
    have hc0 : c ≠ 0 := by intro h; subst h; simp at hc; omega
    by_cases hc1 : c = 1
    · subst hc1; simp at hc; exact hc.symm
    · obtain ⟨q, hq1, ⟨t, ht⟩⟩ := prime_dvd c (by omega)
      have hqd : q ∣ n - 1 := ⟨d * t, by rw [hc, ht, Nat.mul_left_comm]⟩
      have : (n - 1) / q = d * t := by
        rw [hc, ht, show d * (q * t) = q * (d * t) by rw [Nat.mul_left_comm]]
        exact Nat.mul_div_cancel_left _ (by have := hq1.1; omega)
      exact absurd (by rw [this]; exact hd.powmul t) (hq q hq1 hqd)
  intro k h0 hk hc
  exact hl k (by omega) ⟨h0, hc⟩

theorem Root.inv {n g : Nat} (h : Root n g) {k : Nat} (hk : k ≤ n - 1) : Cg n (g ^ (n - 1 - k) * g ^ k) 1 := by
  rw [← Nat.pow_add, show n - 1 - k + k = n - 1 by omega]; exact h.one
theorem Root.pos {n g : Nat} (h : Root n g) {k : Nat} (hk : k ≤ n - 1) : 0 < g ^ k % n := by
  rcases Nat.eq_zero_or_pos (g ^ k % n) with h0 | h0
  · have h1 := h.inv hk
    have h2 : Cg n (g ^ (n - 1 - k) * g ^ k) (g ^ (n - 1 - k) * 0) := (Cg.refl n _).mul (by unfold Cg; rw [h0]; simp)
    have h3 := h1.symm.trans h2
    have := h.two
    unfold Cg at h3
    simp at h3
    omega
  · exact h0
theorem Root.inj {n g : Nat} (h : Root n g) {i j : Nat} (hi : i < n - 1) (hj : j < n - 1) (e : Cg n (g ^ i) (g ^ j)) : i = j := by
  have key : ∀ i j, i < j → j < n - 1 → Cg n (g ^ i) (g ^ j) → False := by
    intro i j hij hj e
    have e1 : Cg n (g ^ i * 1) (g ^ i * g ^ (j - i)) := by
      rw [Nat.mul_one, ← Nat.pow_add, show i + (j - i) = j by omega]; exact e
    have := Cg.cancel (h.inv (k := i) (by omega)) e1
    exact h.least (j - i) (by omega) (by omega) this.symm
  rcases Nat.lt_trichotomy i j with hlt | he | hlt
  · exact (key i j hlt hj e).elim
  · exact he
  · exact (key j i hlt hi e.symm).elim
theorem Root.all {n g : Nat} (h : Root n g) (x : Nat) (h0 : x % n ≠ 0) : ∃ k, k < n - 1 ∧ Cg n (g ^ k) x := by
  have h2 := h.two
  have hx := Nat.mod_lt x (show n > 0 by omega)
  obtain ⟨i, hi, he⟩ := pigeon (n - 1) (fun i => g ^ i % n - 1)
    (by intro i hi; have := Nat.mod_lt (g ^ i) (show n > 0 by omega); omega)
    (by
      intro i j hi hj e
      have p1 := h.pos (k := i) (by omega)
      have p2 := h.pos (k := j) (by omega)
      exact h.inj hi hj (show g ^ i % n = g ^ j % n by omega))
    (x % n - 1) (by omega)
  have p1 := h.pos (k := i) (by omega)
  exact ⟨i, hi, show g ^ i % n = x % n by omega⟩
theorem Root.prime {n g : Nat} (h : Root n g) : Prime n := by
  have h2 := h.two
  refine ⟨h2, fun d hd => ?_⟩
  have hdn : d ≤ n := Nat.le_of_dvd (by omega) hd
  by_cases he : d = n
  · exact .inr he
  left
  have hd0 : d ≠ 0 := by intro h0; subst h0; have := Nat.eq_zero_of_zero_dvd hd; omega
  obtain ⟨k, hk, hc⟩ := h.all d (by rw [Nat.mod_eq_of_lt (by omega)]; exact hd0)
  have h1 := h.inv (k := k) (by omega)
  have h3 : Cg n (g ^ (n - 1 - k) * d) 1 := ((Cg.refl n _).mul hc.symm).trans h1
  rw [Cg.one h2] at h3
  have h4 : d ∣ (g ^ (n - 1 - k) * d) % n := (Nat.dvd_mod_iff hd).2 ⟨g ^ (n - 1 - k), by rw [Nat.mul_comm]⟩
  rw [h3] at h4
  exact Nat.eq_one_of_dvd_one h4
theorem Root.fermat {n g : Nat} (h : Root n g) (x : Nat) (h0 : x % n ≠ 0) : Cg n (x ^ (n - 1)) 1 := by
  obtain ⟨k, _, hc⟩ := h.all x h0
  have h1 : Cg n (x ^ (n - 1)) ((g ^ k) ^ (n - 1)) := hc.symm.pow _
  rw [← Nat.pow_mul, Nat.mul_comm, Nat.pow_mul] at h1
  have h2 := h.one.pow k
  rw [Nat.one_pow] at h2
  exact h1.trans h2
theorem Cg.add_cancel {n x y c : Nat} (h : Cg n (x + c) (y + c)) : Cg n x y := by
  unfold Cg at *
  have h1 : ((x : Int) + c) % n = ((y : Int) + c) % n := by exact_mod_cast h
  rw [Int.emod_add_cancel_right] at h1
  exact_mod_cast h1
theorem inv_uniq {m a x y : Nat} (hx : x < m) (hy : y < m) (h1 : Cg m (x * a) 1) (h2 : Cg m (y * a) 1) : x = y := by
  have e1 : Cg m (x * (y * a)) (x * 1) := (Cg.refl m x).mul h2
  have e2 : Cg m (y * (x * a)) (y * 1) := (Cg.refl m y).mul h1
  rw [Nat.mul_left_comm] at e1
  rw [Nat.mul_one] at e1 e2
  exact (e1.symm.trans e2).eq hx hy
/-- one step of Euclid's way -/
theorem euclid_step {m a b n w i i' k t : Nat} (hw : Cg m (w * a) b) (hi : Cg m (i * a) n) (hk : k = b / n) (ht : Cg m t (k * i)) (hi' : Cg m (i' + t) w) : Cg m (i' * a) (b % n) := by
  have e1 : Cg m ((i' + t) * a) b := (hi'.mul (Cg.refl m a)).trans hw
  rw [Nat.add_mul] at e1
  have e2 : Cg m (t * a) (k * n) := (ht.mul (Cg.refl m a)).trans (by rw [Nat.mul_assoc]; exact (Cg.refl m k).mul hi)
  have e3 : Cg m (i' * a + t * a) (i' * a + k * n) := (Cg.refl m _).add e2
  have e4 := e3.symm.trans e1
  have e5 : b = b % n + k * n := by subst hk; rw [Nat.mul_comm]; exact (Nat.mod_add_div b n).symm
  have e6 : Cg m (i' * a + k * n) (b % n + k * n) := by rw [← e5]; exact e4
  exact e6.add_cancel
theorem gcd_step {b n : Nat} : Nat.gcd n (b % n) = Nat.gcd b n := by
  rw [Nat.gcd_comm b n]; exact (Nat.gcd_rec n b ▸ Nat.gcd_comm _ _)
/-- who has an inverse is prime to the modulus -/
theorem gcd_of_inv {m a x : Nat} (hm : 2 ≤ m) (h : Cg m (x * a) 1) : Nat.gcd m (a % m) = 1 := by
  have h1 : Nat.gcd m (a % m) ∣ (x * a) % m := by
    have hd : Nat.gcd m (a % m) ∣ x * (a % m) := Nat.dvd_trans (Nat.gcd_dvd_right _ _) (Nat.dvd_mul_left _ _)
    have : (x * a) % m = (x * (a % m)) % m := by rw [Nat.mul_mod, Nat.mul_mod x (a % m), Nat.mod_mod]
    rw [this]
    exact (Nat.dvd_mod_iff (Nat.gcd_dvd_left _ _)).2 hd
  rw [(Cg.one hm).1 h] at h1
  exact Nat.eq_one_of_dvd_one h1
end NT
end Go.Proofs.Ytlnkpbaibnfhhaa
/- What the functions of layer 1 compute, as numbers: plain Lean, no program in it. -/
namespace Go.Proofs.Ytlnkpbaibnfhhaa
open NT
/-- a modulus -/
def Modulus (m : Nat) : Prop := 2 ≤ m ∧ m ≤ 4611686018427387904
noncomputable def addS (a b m : Nat) : Nat := open Classical in if Modulus m then (a + b) % m else 0
noncomputable def subS (a b m : Nat) : Nat := open Classical in if Modulus m then (a % m + m - b % m) % m else 0
noncomputable def mulS (a b m : Nat) : Nat := open Classical in if Modulus m then a * b % m else 0
noncomputable def powS (a e m : Nat) : Nat := open Classical in if Modulus m then a ^ e % m else 0
/-- some number below m makes 1 of a -/
def HasInv (a m : Nat) : Prop := Modulus m ∧ ∃ x, x < m ∧ Cg m (x * a) 1
noncomputable def invS (a m : Nat) : Nat := open Classical in if h : HasInv a m then h.2.choose else 0
theorem addS_yes {a b m : Nat} (h : Modulus m) : addS a b m = (a + b) % m := if_pos h
theorem subS_yes {a b m : Nat} (h : Modulus m) : subS a b m = (a % m + m - b % m) % m := if_pos h
theorem mulS_yes {a b m : Nat} (h : Modulus m) : mulS a b m = a * b % m := if_pos h
theorem powS_yes {a b m : Nat} (h : Modulus m) : powS a b m = a ^ b % m := if_pos h
theorem addS_no {a b m : Nat} (h : ¬ Modulus m) : addS a b m = 0 := if_neg h
theorem subS_no {a b m : Nat} (h : ¬ Modulus m) : subS a b m = 0 := if_neg h
theorem mulS_no {a b m : Nat} (h : ¬ Modulus m) : mulS a b m = 0 := if_neg h
theorem powS_no {a b m : Nat} (h : ¬ Modulus m) : powS a b m = 0 := if_neg h
theorem invS_spec {a m : Nat} (h : HasInv a m) : invS a m < m ∧ Cg m (invS a m * a) 1 := by
  unfold invS; rw [dif_pos h]; exact h.2.choose_spec
theorem invS_eq {a m x : Nat} (hm : Modulus m) (hx : x < m) (h : Cg m (x * a) 1) : HasInv a m ∧ invS a m = x := by
  have hi : HasInv a m := ⟨hm, x, hx, h⟩
  obtain ⟨h1, h2⟩ := invS_spec hi
  exact ⟨hi, inv_uniq h1 hx h2 h⟩
theorem invS_no {a m : Nat} (h : ¬ HasInv a m) : invS a m = 0 := dif_neg h
theorem hasInv_gcd {a m : Nat} (h : HasInv a m) : Nat.gcd m (a % m) = 1 := by
  obtain ⟨hm, x, hx, h1⟩ := h
  exact gcd_of_inv hm.1 h1
noncomputable def hasB (a m : Nat) : Bool := open Classical in decide (HasInv a m)
theorem hasB_yes {a m : Nat} (h : HasInv a m) : hasB a m = true := by unfold hasB; classical exact decide_eq_true h
theorem hasB_no {a m : Nat} (h : ¬ HasInv a m) : hasB a m = false := by unfold hasB; classical exact decide_eq_false h
theorem hasB_iff {a m : Nat} : hasB a m = true ↔ HasInv a m := by unfold hasB; classical exact decide_eq_true_iff
/-- a product below the modulus, closed to the walk -/
def tm (a b m : Nat) : Nat := a * b % m
/-- Euclid's way, on the road: what is left, and how often a is in it -/
structure Euc (a m : Nat) (b n w i : Int) : Prop where
  b0 : 0 ≤ b
  bl : b ≤ m
  n0 : 0 ≤ n
  nl : n < m
  w0 : 0 ≤ w
  wl : w < m
  i0 : 0 ≤ i
  il : i < m
  wa : Cg m (w.toNat * a) b.toNat
  ia : Cg m (i.toNat * a) n.toNat
  gcd : Nat.gcd b.toNat n.toNat = Nat.gcd m (a % m)
theorem Euc.start {a m : Nat} (h : 2 ≤ m) : Euc a m m (a % m : Nat) 0 1 := by
  have hl := Nat.mod_lt a (show 0 < m by omega)
  refine ⟨by omega, by omega, by omega, by omega, by omega, by omega, by omega, by omega, ?_, ?_, ?_⟩
  · simp [Cg]
  · simp only [Int.toNat_one, Nat.one_mul, Int.toNat_natCast]; exact (Cg.mod m a).symm
  · simp only [Int.toNat_natCast]
theorem subS_back {x t m : Nat} (h : Modulus m) : Cg m (subS x t m + t) x := by
  rw [subS_yes h]
  unfold Cg
  have := Nat.mod_lt t (show 0 < m by have := h.1; omega)
  rw [Nat.mod_add_mod, Nat.add_mod, show x % m + m - t % m = (x % m - 0) + (m - t % m) by omega]
  have e : (x % m - 0 + (m - t % m)) % m + t % m = (x % m - 0 + (m - t % m)) % m + (t % m) % m := by rw [Nat.mod_mod]
  rw [e, ← Nat.add_mod, show x % m - 0 + (m - t % m) + t % m = x % m + m by omega, Nat.add_mod_right, Nat.mod_mod]
theorem subS_lt {x t m : Nat} (h : Modulus m) : subS x t m < m := by
  rw [subS_yes h]; exact Nat.mod_lt _ (by have := h.1; omega)
theorem Euc.step {a m : Nat} {b n w i : Int} (h : Euc a m b n w i) (hm : Modulus m) (hn : 0 < n) :
    Euc a m n (b % n) i (subS w.toNat (tm ((b / n) % m).toNat i.toNat m) m : Nat) := by
  obtain ⟨b0, bl, n0, nl, w0, wl, i0, il, wa, ia, g⟩ := h
  have r1 := Int.emod_nonneg b (show n ≠ 0 by omega)
  have r2 := Int.emod_lt_of_pos b hn
  have hsl := subS_lt (x := w.toNat) (t := tm ((b / n) % m).toNat i.toNat m) hm
  refine ⟨n0, by omega, r1, by omega, i0, il, by omega, by omega, ia, ?_, ?_⟩
  · obtain ⟨b, rfl⟩ := Int.eq_ofNat_of_zero_le b0
    obtain ⟨n, rfl⟩ := Int.eq_ofNat_of_zero_le n0
    have e1 : ((b : Int) % (n : Int)).toNat = b % n := by rw [← Int.natCast_emod]; rfl
    have e2 : (((b : Int) / (n : Int)) % (m : Int)).toNat = b / n % m := by rw [← Int.natCast_ediv, ← Int.natCast_emod]; rfl
    simp only [Int.toNat_natCast] at wa ia ⊢
    rw [e1, e2]
    refine euclid_step (b := b) (n := n) (w := w.toNat) (i := i.toNat) (t := tm (b / n % m) i.toNat m) wa ia rfl ?_ (subS_back hm)
    unfold tm
    exact (Cg.mod m _).trans ((Cg.mod m _).mul (Cg.refl m _))
  · rw [← g]
    obtain ⟨b, rfl⟩ := Int.eq_ofNat_of_zero_le b0
    obtain ⟨n, rfl⟩ := Int.eq_ofNat_of_zero_le n0
    have e1 : ((b : Int) % (n : Int)).toNat = b % n := by rw [← Int.natCast_emod]; rfl
    simp only [Int.toNat_natCast]
    rw [e1]
    exact gcd_step
theorem Euc.yes {a m : Nat} {w i : Int} (h : Euc a m 1 0 w i) (hm : Modulus m) : HasInv a m ∧ (invS a m : Int) = w := by
  obtain ⟨b0, bl, n0, nl, w0, wl, i0, il, wa, ia, g⟩ := h
  have := invS_eq (a := a) hm (show w.toNat < m by omega) wa
  exact ⟨this.1, by omega⟩
theorem Euc.no {a m : Nat} {b w i : Int} (h : Euc a m b 0 w i) (hb : b ≠ 1) : ¬ HasInv a m := by
  intro hi
  have h1 := hasInv_gcd hi
  have h2 := h.gcd
  have h3 := h.b0
  rw [h1] at h2
  simp at h2
  omega
end Go.Proofs.Ytlnkpbaibnfhhaa
/- modn.right and modn.times: which number is a modulus, and a product below it. -/
namespace Go.Proofs.Ytlnkpbaibnfhhaa
open Go.RowKit DivN NT
theorem tn_mod (a m : Nat) : ((a : Int) % (m : Int)).toNat = a % m := by rw [← Int.natCast_emod]; rfl
theorem modulus_of {m : Int} (h0 : 2 ≤ m) (h1 : m ≤ 4611686018427387904) : Modulus m.toNat := ⟨by omega, by omega⟩
theorem modulus_not {m : Int} (h : ¬ (2 ≤ m ∧ m ≤ 4611686018427387904)) (h0 : 0 ≤ m) : ¬ Modulus m.toNat := fun ⟨h1, h2⟩ => h ⟨by omega, by omega⟩
theorem right_yes (m : Int) (h1 : 2 ≤ m) (h2 : m ≤ 4611686018427387904) (w : World) :
    Calls Try.prog 61 #[.int .u64 m] w fun e w' => e = .returned (.bool true) ∧ w = w' := by
  go_enter Try.func61, Try.ntmps61
  go_wp2_with fail
  go_ret
  exact ⟨by simp [h2], rfl⟩
theorem right_no (m : Int) (h : ¬ (2 ≤ m ∧ m ≤ 4611686018427387904)) (w : World) :
    Calls Try.prog 61 #[.int .u64 m] w fun e w' => e = .returned (.bool false) ∧ w = w' := by
  by_cases h1 : 2 ≤ m
  · have h2 : ¬ m ≤ 4611686018427387904 := fun h2 => h ⟨h1, h2⟩
    clear h
    go_enter Try.func61, Try.ntmps61
    go_wp2_with fail
    go_ret
    exact ⟨by simp [h2], rfl⟩
  · clear h
    go_enter Try.func61, Try.ntmps61
    go_wp2_with fail
    go_ret
    exact ⟨rfl, rfl⟩
theorem mul64 (a b : Int) (a0 : 0 ≤ a) (a1 : a < 18446744073709551616) (b0 : 0 ≤ b) (b1 : b < 18446744073709551616) (w : World) :
    Calls Try.prog 65 #[.int .u64 a, .int .u64 b] w fun e w' => e = .returned (.tuple #[.int .u64 ((a.toNat * b.toNat / 18446744073709551616 : Nat) : Int), .int .u64 ((a.toNat * b.toNat % 18446744073709551616 : Nat) : Int)]) ∧ w = w' := by
  have h := Try.bits_Mul64 a.toNat b.toNat (by omega) (by omega) w
  rw [Int.toNat_of_nonneg a0, Int.toNat_of_nonneg b0] at h
  exact h.mono fun e w' ⟨h1, h2⟩ => ⟨h1, h2.symm⟩
set_option maxRecDepth 100000 in
theorem times_any (a b m : Int) (a0 : 0 ≤ a) (b0 : 0 ≤ b) (ha : a < m) (hb : b < m) (hm : m ≤ 4611686018427387904) (w : World) :
    Calls Try.prog 62 #[.int .u64 a, .int .u64 b, .int .u64 m] w fun e w' => e = .returned (.int .u64 (tm a.toNat b.toNat m.toNat : Nat)) ∧ Drawn w w' := by
  obtain ⟨P, hP⟩ : ∃ P, P = a.toNat * b.toNat := ⟨_, rfl⟩
  have hPl : P / 18446744073709551616 < m.toNat := by
    rw [Nat.div_lt_iff_lt_mul (by omega), hP]
    have := Nat.mul_lt_mul'' (show a.toNat < m.toNat by omega) (show b.toNat < m.toNat by omega)
    have : m.toNat * m.toNat ≤ m.toNat * 18446744073709551616 := Nat.mul_le_mul_left _ (by omega)
    omega
  have HP := Lib.hid hP
  clear hP
  go_enter Try.func62, Try.ntmps62
  go_wp2_with fail
  refine (mul64 a b a0 (by omega) b0 (by omega) _).mono ?_
  rintro e w' ⟨rfl, rfl⟩
  rw [← HP.out]
  obtain ⟨h, hh⟩ : ∃ h, h = P / 18446744073709551616 := ⟨_, rfl⟩
  obtain ⟨l, hl⟩ : ∃ l, l = P % 18446744073709551616 := ⟨_, rfl⟩
  rw [← hh, ← hl]
  rw [← hh] at hPl
  have hd : h * 18446744073709551616 + l = P := by omega
  have hll : l < 18446744073709551616 := by omega
  obtain ⟨M, hM⟩ : ∃ M : Nat, m = M := ⟨m.toNat, by omega⟩
  subst hM
  have HD := Lib.hid hd
  clear hh hl hd
  go_wp2_with fail
  refine (div64_any h l M (by omega) (by omega) (by omega) _).mono ?_
  rintro e w' ⟨rfl, hD⟩
  go_wp2_with fail
  go_ret
  exact ⟨ret_int (by rw [show (h : Int) * 18446744073709551616 + l = (P : Int) by have := HD.out; omega, HP.out]; unfold tm; simp), hD⟩
end Go.Proofs.Ytlnkpbaibnfhhaa
/- modn.Add computes the sum modulo m. -/
namespace Go.Proofs.Ytlnkpbaibnfhhaa
open Go.RowKit DivN NT
theorem add_any (a b m : Int) (a0 : 0 ≤ a) (b0 : 0 ≤ b) (m0 : 0 ≤ m) (w : World) :
    Calls Try.prog 45 #[.int .u64 a, .int .u64 b, .int .u64 m] w fun e w' => e = .returned (.int .u64 (addS a.toNat b.toNat m.toNat : Nat)) ∧ Drawn w w' := by
  by_cases hm : 2 ≤ m ∧ m ≤ 4611686018427387904
  · obtain ⟨h1, h2⟩ := hm
    have r1 := Int.emod_nonneg a (show m ≠ 0 by omega)
    have r2 := Int.emod_lt_of_pos a (show 0 < m by omega)
    have r3 := Int.emod_nonneg b (show m ≠ 0 by omega)
    have r4 := Int.emod_lt_of_pos b (show 0 < m by omega)
    go_enter Try.func45, Try.ntmps45
    go_wp2_with (go_at_call 61; refine (right_yes _ h1 h2 _).mono ?_; rintro e w' ⟨rfl, rfl⟩)
    go_quiet (fail)
    go_wp2_with fail
    go_ret
    exact ⟨ret_int (by
      rw [addS_yes (modulus_of h1 h2)]
      obtain ⟨a, rfl⟩ := Int.eq_ofNat_of_zero_le a0
      obtain ⟨b, rfl⟩ := Int.eq_ofNat_of_zero_le b0
      obtain ⟨m, rfl⟩ := Int.eq_ofNat_of_zero_le m0
      simp [Int.add_emod]), Drawn.of _ _⟩
  · go_enter Try.func45, Try.ntmps45
    go_wp2_with (go_at_call 61; refine (right_no _ hm _).mono ?_; rintro e w' ⟨rfl, rfl⟩)
    go_ret
    exact ⟨ret_int (by rw [addS_no (modulus_not hm m0)]; rfl), Drawn.refl _⟩
end Go.Proofs.Ytlnkpbaibnfhhaa
/- modn.Sub computes the difference modulo m. -/
namespace Go.Proofs.Ytlnkpbaibnfhhaa
open Go.RowKit DivN NT
theorem sub_any (a b m : Int) (a0 : 0 ≤ a) (b0 : 0 ≤ b) (m0 : 0 ≤ m) (w : World) :
    Calls Try.prog 48 #[.int .u64 a, .int .u64 b, .int .u64 m] w fun e w' => e = .returned (.int .u64 (subS a.toNat b.toNat m.toNat : Nat)) ∧ Drawn w w' := by
  by_cases hm : 2 ≤ m ∧ m ≤ 4611686018427387904
  · obtain ⟨h1, h2⟩ := hm
    have r1 := Int.emod_nonneg a (show m ≠ 0 by omega)
    have r2 := Int.emod_lt_of_pos a (show 0 < m by omega)
    have r3 := Int.emod_nonneg b (show m ≠ 0 by omega)
    have r4 := Int.emod_lt_of_pos b (show 0 < m by omega)
    go_enter Try.func48, Try.ntmps48
    go_wp2_with (go_at_call 61; refine (right_yes _ h1 h2 _).mono ?_; rintro e w' ⟨rfl, rfl⟩)
    go_quiet (fail)
    go_wp2_with fail
    go_ret
    exact ⟨ret_int (by
      rw [subS_yes (modulus_of h1 h2)]
      obtain ⟨a, rfl⟩ := Int.eq_ofNat_of_zero_le a0
      obtain ⟨b, rfl⟩ := Int.eq_ofNat_of_zero_le b0
      obtain ⟨m, rfl⟩ := Int.eq_ofNat_of_zero_le m0
      simp only [Int.toNat_natCast]
      rw [Int.natCast_emod, Int.ofNat_sub (by have := Nat.mod_lt b (show 0 < m by omega); omega)]
      simp), Drawn.of _ _⟩
  · go_enter Try.func48, Try.ntmps48
    go_wp2_with (go_at_call 61; refine (right_no _ hm _).mono ?_; rintro e w' ⟨rfl, rfl⟩)
    go_ret
    exact ⟨ret_int (by rw [subS_no (modulus_not hm m0)]; rfl), Drawn.refl _⟩
end Go.Proofs.Ytlnkpbaibnfhhaa
/- modn.Mul computes the product modulo m. -/
namespace Go.Proofs.Ytlnkpbaibnfhhaa
open Go.RowKit DivN NT
theorem mul_any (a b m : Int) (a0 : 0 ≤ a) (b0 : 0 ≤ b) (m0 : 0 ≤ m) (w : World) :
    Calls Try.prog 46 #[.int .u64 a, .int .u64 b, .int .u64 m] w fun e w' => e = .returned (.int .u64 (mulS a.toNat b.toNat m.toNat : Nat)) ∧ Drawn w w' := by
  by_cases hm : 2 ≤ m ∧ m ≤ 4611686018427387904
  · obtain ⟨h1, h2⟩ := hm
    have r1 := Int.emod_nonneg a (show m ≠ 0 by omega)
    have r2 := Int.emod_lt_of_pos a (show 0 < m by omega)
    have r3 := Int.emod_nonneg b (show m ≠ 0 by omega)
    have r4 := Int.emod_lt_of_pos b (show 0 < m by omega)
    go_enter Try.func46, Try.ntmps46
    go_wp2_with fail
    refine (right_yes _ h1 h2 _).mono ?_
    rintro e w' ⟨rfl, rfl⟩
    go_wp2_with fail
    go_quiet ((go_at_call 62; exact quiet_drawn (times_any (a % m) (b % m) m r1 r3 r2 r4 h2 _)))
    go_wp2_with fail
    go_ret
    exact ⟨ret_int (by
      rw [mulS_yes (modulus_of h1 h2)]
      obtain ⟨a, rfl⟩ := Int.eq_ofNat_of_zero_le a0
      obtain ⟨b, rfl⟩ := Int.eq_ofNat_of_zero_le b0
      obtain ⟨m, rfl⟩ := Int.eq_ofNat_of_zero_le m0
      unfold tm
      rw [tn_mod, tn_mod]
      simp only [Int.toNat_natCast]
      rw [← Nat.mul_mod]), Drawn.of _ _⟩
  · go_enter Try.func46, Try.ntmps46
    go_wp2_with (go_at_call 61; refine (right_no _ hm _).mono ?_; rintro e w' ⟨rfl, rfl⟩)
    go_ret
    exact ⟨ret_int (by rw [mulS_no (modulus_not hm m0)]; rfl), Drawn.refl _⟩
end Go.Proofs.Ytlnkpbaibnfhhaa
/- modn.Pow computes the power modulo m. -/
namespace Go.Proofs.Ytlnkpbaibnfhhaa
open Go.RowKit DivN NT
/-- what stands of the power when e is left: r times a to the e -/
structure PowAt (a e m : Nat) (x y r : Int) : Prop where
  x0 : 0 ≤ x
  xl : x < m
  r0 : 0 ≤ r
  rl : r < m
  y0 : 0 ≤ y
  yl : y < 18446744073709551616
  eq : Cg m (r.toNat * x.toNat ^ y.toNat) (a ^ e)
theorem PowAt.odd {a e m : Nat} {x y r : Int} (h : PowAt a e m x y r) (hm : 0 < m) (hy : y % 2 = 1) : PowAt a e m (tm x.toNat x.toNat m : Nat) (y / 2) (tm r.toNat x.toNat m : Nat) := by
  unfold tm
  obtain ⟨x0, xl, r0, rl, y0, yl, eq⟩ := h
  have l1 := Nat.mod_lt (x.toNat * x.toNat) hm
  have l2 := Nat.mod_lt (r.toNat * x.toNat) hm
  refine ⟨by omega, by omega, by omega, by omega, by omega, by omega, ?_⟩
  rw [Int.toNat_natCast, Int.toNat_natCast]
  refine Cg.trans ((Cg.mod m _).mul ((Cg.mod m _).pow _)) (Cg.trans ?_ eq)
  have e1 : y.toNat = 1 + 2 * (y / 2).toNat := by omega
  rw [e1, Nat.pow_add, Nat.pow_mul, Nat.pow_one, Nat.mul_assoc, Nat.pow_two]
  exact Cg.refl _ _
theorem PowAt.even {a e m : Nat} {x y r : Int} (h : PowAt a e m x y r) (hm : 0 < m) (hy : y % 2 = 0) : PowAt a e m (tm x.toNat x.toNat m : Nat) (y / 2) r := by
  unfold tm
  obtain ⟨x0, xl, r0, rl, y0, yl, eq⟩ := h
  have l1 := Nat.mod_lt (x.toNat * x.toNat) hm
  refine ⟨by omega, by omega, by omega, by omega, by omega, by omega, ?_⟩
  rw [Int.toNat_natCast]
  refine Cg.trans ((Cg.refl m _).mul ((Cg.mod m _).pow _)) (Cg.trans ?_ eq)
  have e1 : y.toNat = 2 * (y / 2).toNat := by omega
  rw [e1, Nat.pow_mul, Nat.pow_two]
  exact Cg.refl _ _
theorem PowAt.done {a e m : Nat} {x r : Int} (h : PowAt a e m x 0 r) : r = ((a ^ e % m : Nat) : Int) := by
  obtain ⟨x0, xl, r0, rl, y0, yl, eq⟩ := h
  simp only [Int.toNat_zero, Nat.pow_zero, Nat.mul_one] at eq
  unfold Cg at eq
  rw [Nat.mod_eq_of_lt (by omega)] at eq
  omega
set_option maxHeartbeats 1000000 in
theorem pow_any (a e m : Int) (a0 : 0 ≤ a) (e0 : 0 ≤ e) (e1 : e < 18446744073709551616) (m0 : 0 ≤ m) (w : World) :
    Calls Try.prog 58 #[.int .u64 a, .int .u64 e, .int .u64 m] w fun z w' => z = .returned (.int .u64 (powS a.toNat e.toNat m.toNat : Nat)) ∧ Drawn w w' := by
  by_cases hm : 2 ≤ m ∧ m ≤ 4611686018427387904
  · obtain ⟨h1, h2⟩ := hm
    have r1 := Int.emod_nonneg a (show m ≠ 0 by omega)
    have r2 := Int.emod_lt_of_pos a (show 0 < m by omega)
    have hp : PowAt a.toNat e.toNat m.toNat (a % m) e 1 := by
      refine ⟨r1, by omega, by omega, by omega, e0, e1, ?_⟩
      obtain ⟨a, rfl⟩ := Int.eq_ofNat_of_zero_le a0
      obtain ⟨m, rfl⟩ := Int.eq_ofNat_of_zero_le m0
      rw [tn_mod]
      simp only [Int.toNat_natCast, Int.toNat_one, Nat.one_mul]
      exact (Cg.mod m a).pow _
    go_enter Try.func58, Try.ntmps58
    go_wp2_with (go_at_call 61; refine (right_yes _ h1 h2 _).mono ?_; rintro e w' ⟨rfl, rfl⟩)
    have HP0 := Lib.hid hp
    clear hp
    go_loopw [0, 1, 7] (fun s0 s1 s7 wr => ∃ x y r : Int, s0 = .int .u64 x ∧ s1 = .int .u64 y ∧ s7 = .int .u64 r ∧ PowAt a.toNat e.toNat m.toNat x y r ∧ Drawn w wr) (fun _ s1 _ _ => (intOf s1).toNat)
    case atStart => exact ⟨_, _, _, rfl, rfl, rfl, HP0, Drawn.refl _⟩
    case round =>
      obtain ⟨x, y, r, rfl, rfl, rfl, hp, hD⟩ := hrel
      have HP := Lib.hid hp
      obtain ⟨x0, xl, r0, rl, y0, yl, _⟩ := hp
      have xl' : x < m := by omega
      have rl' : r < m := by omega
      have hb : bits .and .u64 y 1 = y % 2 := by
        rw [u64_and y 1 y0 yl (by omega) (by omega)]
        have := Nat.and_one_is_mod y.toNat
        simp only [Int.toNat_one]
        rw [this]
        omega
      by_cases hy : 0 < y
      · by_cases ho : y % 2 = 1
        · have hq := HP.out.odd (by omega) ho
          have HQ := Lib.hid hq
          have ho' : ((y % 2 : Int) == 1) = true := by rw [ho]; rfl
          clear hq ho
          go_wp2_with fail
          refine (times_any r x m r0 x0 rl' xl' h2 _).mono ?_
          rintro e1 w1 ⟨rfl, hD1⟩
          go_wp2_with fail
          refine (times_any x x m x0 x0 xl' xl' h2 _).mono ?_
          rintro e1 w2 ⟨rfl, hD2⟩
          go_wp2_with fail
          go_roundw
          case rel => exact ⟨_, _, _, rfl, rfl, rfl, HQ.out, (hD.trans hD1).trans hD2⟩
          case measure => simp [intOf]; omega
        · have hq := HP.out.even (by omega) (by omega)
          have HQ := Lib.hid hq
          have ho' : ((y % 2 : Int) == 1) = false := by rw [beq_eq_false_iff_ne]; exact ho
          clear hq ho
          go_wp2_with fail
          refine (times_any x x m x0 x0 xl' xl' h2 _).mono ?_
          rintro e1 w2 ⟨rfl, hD2⟩
          go_wp2_with fail
          go_roundw
          case rel => exact ⟨_, _, _, rfl, rfl, rfl, HQ.out, hD.trans hD2⟩
          case measure => simp [intOf]; omega
      · obtain rfl : y = 0 := by omega
        have hq := HP.out.done
        have HQ := Lib.hid hq
        clear hq hb
        go_wp2_with fail
        go_ret
        exact ⟨ret_int (by rw [powS_yes (modulus_of h1 h2)]; exact HQ.out), hD⟩
  · go_enter Try.func58, Try.ntmps58
    go_wp2_with (go_at_call 61; refine (right_no _ hm _).mono ?_; rintro e w' ⟨rfl, rfl⟩)
    go_ret
    exact ⟨ret_int (by rw [powS_no (modulus_not hm m0)]; rfl), Drawn.refl _⟩
end Go.Proofs.Ytlnkpbaibnfhhaa
/- modn.Inv finds what makes 1 of a number modulo m, or tells that nothing does. -/
namespace Go.Proofs.Ytlnkpbaibnfhhaa
open Go.RowKit DivN NT
set_option maxHeartbeats 1000000 in
theorem inv_any (a m : Int) (a0 : 0 ≤ a) (m0 : 0 ≤ m) (w : World) :
    Calls Try.prog 47 #[.int .u64 a, .int .u64 m] w fun z w' => z = .returned (.tuple #[.int .u64 (invS a.toNat m.toNat : Nat), .bool (hasB a.toNat m.toNat)]) ∧ Drawn w w' := by
  by_cases hm : 2 ≤ m ∧ m ≤ 4611686018427387904
  · obtain ⟨h1, h2⟩ := hm
    have r1 := Int.emod_nonneg a (show m ≠ 0 by omega)
    have r2 := Int.emod_lt_of_pos a (show 0 < m by omega)
    have hM := modulus_of h1 h2
    have hp : Euc a.toNat m.toNat m (a % m) 0 1 := by
      have := Euc.start (a := a.toNat) (m := m.toNat) (by omega)
      rwa [Int.natCast_emod, Int.toNat_of_nonneg a0, Int.toNat_of_nonneg m0] at this
    have HP0 := Lib.hid hp
    have HM := Lib.hid hM
    clear hp hM
    go_enter Try.func47, Try.ntmps47
    go_wp2_with (go_at_call 61; refine (right_yes _ h1 h2 _).mono ?_; rintro e w' ⟨rfl, rfl⟩)
    go_quiet (fail)
    go_wp2_with fail
    go_loopw [6, 7, 8, 9] (fun s6 s7 s8 s9 wr => ∃ b n x i : Int, s6 = .int .u64 b ∧ s7 = .int .u64 n ∧ s8 = .int .u64 x ∧ s9 = .int .u64 i ∧ Euc a.toNat m.toNat b n x i ∧ Drawn w wr) (fun _ s7 _ _ _ => (intOf s7).toNat)
    case atStart => exact ⟨_, _, _, _, rfl, rfl, rfl, rfl, HP0.out, Drawn.of _ _⟩
    case round =>
      obtain ⟨b, n, x, i, rfl, rfl, rfl, rfl, hp, hD⟩ := hrel
      have HP := Lib.hid hp
      obtain ⟨b0, bl, n0, nl, x0, xl, i0, il, _, _, _⟩ := hp
      by_cases hn : 0 < n
      · have hq := HP.out.step HM.out hn
        rw [Int.toNat_of_nonneg m0] at hq
        have HQ := Lib.hid hq
        have q1 : 0 ≤ b / n := Int.ediv_nonneg b0 n0
        have q2 : b / n ≤ b := Int.ediv_le_self n b0
        have q3 := Int.emod_nonneg (b / n) (show m ≠ 0 by omega)
        have q4 := Int.emod_lt_of_pos (b / n) (show 0 < m by omega)
        have q5 := Int.emod_nonneg b (show n ≠ 0 by omega)
        have q6 := Int.emod_lt_of_pos b hn
        clear hq
        go_wp2_with fail
        go_quiet (fail)
        go_wp2_with fail
        refine (times_any ((b / n) % m) i m q3 i0 q4 (by omega) h2 _).mono ?_
        rintro e1 w1 ⟨rfl, hD1⟩
        go_wp2_with fail
        refine (sub_any _ _ m x0 (by omega) m0 _).mono ?_
        rintro e1 w2 ⟨rfl, hD2⟩
        go_wp2_with fail
        go_roundw
        case rel => exact ⟨_, _, _, _, rfl, rfl, rfl, rfl, HQ.out, ((hD.drewN _).trans hD1).trans hD2⟩
        case measure => simp [intOf]; omega
      · obtain rfl : n = 0 := by omega
        by_cases hb : b = 1
        · subst hb
          obtain ⟨hy, he⟩ := HP.out.yes HM.out
          have HY := Lib.hid hy
          have HE := Lib.hid he
          clear hy he
          go_wp2_with fail
          go_ret2
          exact ⟨ret_int_bool HE.out.symm (hasB_yes HY.out).symm, hD⟩
        · have hno := HP.out.no hb
          have HN := Lib.hid hno
          have hb' : ((b : Int) != 1) = true := by rw [bne_iff_ne]; exact hb
          clear hno hb
          go_wp2_with fail
          go_ret2
          exact ⟨ret_int_bool (by rw [invS_no HN.out]; rfl) (hasB_no HN.out).symm, hD⟩
  · have hno : ¬ HasInv a.toNat m.toNat := fun h => modulus_not hm m0 h.1
    have HN := Lib.hid hno
    clear hno
    go_enter Try.func47, Try.ntmps47
    go_wp2_with (go_at_call 61; refine (right_no _ hm _).mono ?_; rintro e w' ⟨rfl, rfl⟩)
    go_ret2
    exact ⟨ret_int_bool (by rw [invS_no HN.out]; rfl) (hasB_no HN.out).symm, Drawn.refl _⟩
end Go.Proofs.Ytlnkpbaibnfhhaa
