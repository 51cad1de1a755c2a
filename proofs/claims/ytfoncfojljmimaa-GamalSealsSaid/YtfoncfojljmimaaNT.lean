/- Plain number theory: congruence, primitive roots out of Lucas' conditions, primes, Fermat; inverses by Euclid's way. No program in it. -/
set_option linter.unusedVariables false
set_option linter.unusedSimpArgs false
namespace Go.Proofs.Ytfoncfojljmimaa
namespace NT

def Prime (n : Nat) : Prop := 2 ≤ n ∧ ∀ d, d ∣ n → d = 1 ∨ d = n

theorem least (P : Nat → Prop) : (∃ n, P n) → ∃ n, P n ∧ ∀ m, m < n → ¬ P m := by
  intro ⟨n, hn⟩
  induction n using Nat.strongRecOn with
  | _ n ih =>
    by_cases h : ∃ m, m < n ∧ P m
    · obtain ⟨m, hm, hp⟩ := h
      exact ih m hm hp
    · exact ⟨n, hn, fun m hm hp => h ⟨m, hm, hp⟩⟩

theorem prime_dvd (n : Nat) (h : 2 ≤ n) : ∃ p, Prime p ∧ p ∣ n := by
  obtain ⟨p, ⟨hp2, hpn⟩, hl⟩ := least (fun d => 2 ≤ d ∧ d ∣ n) ⟨n, h, Nat.dvd_refl n⟩
  refine ⟨p, ⟨hp2, fun d hd => ?_⟩, hpn⟩
  have hdn : d ∣ n := Nat.dvd_trans hd hpn
  have hdp : d ≤ p := Nat.le_of_dvd (by omega) hd
  by_cases h2 : 2 ≤ d
  · by_cases he : d = p
    · exact .inr he
    · exact absurd ⟨h2, hdn⟩ (hl d (by omega))
  · have : d ≠ 0 := by
      intro h0; subst h0
      have := Nat.eq_zero_of_zero_dvd hd; omega
    left; omega

theorem Prime.dvd_mul {p a b : Nat} (hp : Prime p) (h : p ∣ a * b) : p ∣ a ∨ p ∣ b := by
  rcases hp.2 (Nat.gcd p a) (Nat.gcd_dvd_left p a) with h1 | h1
  · exact .inr (Nat.Coprime.dvd_of_dvd_mul_left (k := p) (m := a) (n := b) h1 h)
  · left
    have := Nat.gcd_dvd_right p a
    rwa [h1] at this

theorem Prime.dvd_pow {p a : Nat} (hp : Prime p) : ∀ {k : Nat}, p ∣ a ^ k → p ∣ a := by
  intro k
  induction k with
  | zero => intro h; simp at h; have := hp.1; omega
  | succ k ih =>
    intro h
    rw [Nat.pow_succ] at h
    rcases hp.dvd_mul h with h | h
    · exact ih h
    · exact h

theorem pigeon : ∀ (N : Nat) (f : Nat → Nat), (∀ i, i < N → f i < N) → (∀ i j, i < N → j < N → f i = f j → i = j) →
    ∀ y, y < N → ∃ i, i < N ∧ f i = y := by
  intro N
  induction N with
  | zero => intro f _ _ y hy; omega
  | succ N ih =>
    intro f hf hi y hy
    have hv : f N < N + 1 := hf N (by omega)
    have key := ih (fun i => if f i = N then f N else f i)
      (by
        intro i hiN
        split
        · rename_i h
          have hne : f N ≠ N := by
            intro e
            have := hi i N (by omega) (by omega) (by omega)
            omega
          omega
        · have := hf i (by omega); omega)
      (by
        intro i j hiN hjN
        split <;> split
        · rename_i h1 h2; intro _; exact hi i j (by omega) (by omega) (by omega)
        · rename_i h1 h2; intro h; have := hi N j (by omega) (by omega) h; omega
        · rename_i h1 h2; intro h; have := hi i N (by omega) (by omega) h; omega
        · intro h; exact hi i j (by omega) (by omega) h)
    by_cases h1 : y = f N
    · exact ⟨N, by omega, h1.symm⟩
    · by_cases h2 : y = N
      · obtain ⟨i, hiN, he⟩ := key (f N) (by omega)
        split at he
        · rename_i h; exact ⟨i, by omega, by omega⟩
        · have := hi i N (by omega) (by omega) he; omega
      · obtain ⟨i, hiN, he⟩ := key y (by omega)
        split at he
        · omega
        · exact ⟨i, by omega, he⟩

/-! congruence -/
def Cg (n a b : Nat) : Prop := a % n = b % n
theorem Cg.refl (n a : Nat) : Cg n a a := rfl
theorem Cg.symm {n a b : Nat} (h : Cg n a b) : Cg n b a := Eq.symm h
theorem Cg.trans {n a b c : Nat} (h : Cg n a b) (k : Cg n b c) : Cg n a c := Eq.trans h k
theorem Cg.mod (n a : Nat) : Cg n (a % n) a := Nat.mod_mod a n
theorem Cg.mul {n a b c d : Nat} (h : Cg n a b) (k : Cg n c d) : Cg n (a * c) (b * d) := by
  unfold Cg at *; rw [Nat.mul_mod, h, k, ← Nat.mul_mod]
theorem Cg.add {n a b c d : Nat} (h : Cg n a b) (k : Cg n c d) : Cg n (a + c) (b + d) := by
  unfold Cg at *; rw [Nat.add_mod, h, k, ← Nat.add_mod]
theorem Cg.pow {n a b : Nat} (h : Cg n a b) (k : Nat) : Cg n (a ^ k) (b ^ k) := by
  unfold Cg at *; rw [Nat.pow_mod, h, ← Nat.pow_mod]
theorem Cg.one {n a : Nat} (h2 : 2 ≤ n) : Cg n a 1 ↔ a % n = 1 := by
  unfold Cg; rw [Nat.mod_eq_of_lt (show 1 < n by omega)]
theorem Cg.powmul {n a e : Nat} (h : Cg n (a ^ e) 1) (k : Nat) : Cg n (a ^ (e * k)) 1 := by
  rw [Nat.pow_mul]
  have := h.pow k
  rwa [Nat.one_pow] at this
/-- what has an inverse is cancelled -/
theorem Cg.cancel {n a u x y : Nat} (hu : Cg n (u * a) 1) (h : Cg n (a * x) (a * y)) : Cg n x y := by
  have h1 : Cg n (u * (a * x)) (u * (a * y)) := (Cg.refl n u).mul h
  rw [← Nat.mul_assoc, ← Nat.mul_assoc] at h1
  have hx : Cg n (u * a * x) (1 * x) := hu.mul (Cg.refl n x)
  have hy : Cg n (u * a * y) (1 * y) := hu.mul (Cg.refl n y)
  rw [Nat.one_mul] at hx hy
  exact hx.symm.trans (h1.trans hy)
theorem Cg.eq {n a b : Nat} (h : Cg n a b) (ha : a < n) (hb : b < n) : a = b := by
  unfold Cg at h; rwa [Nat.mod_eq_of_lt ha, Nat.mod_eq_of_lt hb] at h

/-- A primitive root: its powers below n - 1 are all numbers from 1 to n - 1. -/
structure Root (n g : Nat) : Prop where
  two : 2 ≤ n
  one : Cg n (g ^ (n - 1)) 1
  least : ∀ k, 0 < k → k < n - 1 → ¬ Cg n (g ^ k) 1

theorem order_dvd {n a d e : Nat} (hd : Cg n (a ^ d) 1) (hpos : 0 < d) (hl : ∀ k, 0 < k → k < d → ¬ Cg n (a ^ k) 1) (he : Cg n (a ^ e) 1) : d ∣ e := by
  have h1 : Cg n (a ^ (d * (e / d) + e % d)) 1 := by rw [Nat.div_add_mod]; exact he
  rw [Nat.pow_add] at h1
  have h2 : Cg n (a ^ (d * (e / d)) * a ^ (e % d)) (1 * a ^ (e % d)) := (hd.powmul (e / d)).mul (Cg.refl n _)
  rw [Nat.one_mul] at h2
  have h3 := h2.symm.trans h1
  have hlt := Nat.mod_lt e hpos
  rcases Nat.eq_zero_or_pos (e % d) with h0 | h0
  · exact Nat.dvd_of_mod_eq_zero h0
  · exact absurd h3 (hl _ h0 hlt)

theorem root_of_lucas {n a : Nat} (h2 : 2 ≤ n) (h1 : Cg n (a ^ (n - 1)) 1) (hq : ∀ q, Prime q → q ∣ n - 1 → ¬ Cg n (a ^ ((n - 1) / q)) 1) : Root n a := by
  refine ⟨h2, h1, ?_⟩
  by_cases hn : n = 2
  · subst hn; intro k h0 hk; omega
  obtain ⟨d, ⟨hd0, hd⟩, hl⟩ := NT.least (fun d => 0 < d ∧ Cg n (a ^ d) 1) ⟨n - 1, by omega, h1⟩
  have hdv : d ∣ n - 1 := order_dvd hd hd0 (fun k hk hkd hc => hl k hkd ⟨hk, hc⟩) h1
  have hde : d = n - 1 := by
    obtain ⟨c, hc⟩ := hdv
    have hc0 : c ≠ 0 := by intro h; subst h; simp at hc; omega
    by_cases hc1 : c = 1
    · subst hc1; simp at hc; exact hc.symm
    · obtain ⟨q, hq1, ⟨t, ht⟩⟩ := prime_dvd c (by omega)
      have hqd : q ∣ n - 1 := ⟨d * t, by rw [hc, ht, Nat.mul_left_comm]⟩
      have : (n - 1) / q = d * t := by
        rw [hc, ht, show d * (q * t) = q * (d * t) by rw [Nat.mul_left_comm]]
        exact Nat.mul_div_cancel_left _ (by have := hq1.1; omega)
      exact absurd (by rw [this]; exact hd.powmul t) (hq q hq1 hqd)
  intro k h0 hk hc
  exact hl k (by omega) ⟨h0, hc⟩

theorem Root.inv {n g : Nat} (h : Root n g) {k : Nat} (hk : k ≤ n - 1) : Cg n (g ^ (n - 1 - k) * g ^ k) 1 := by
  rw [← Nat.pow_add, show n - 1 - k + k = n - 1 by omega]; exact h.one
theorem Root.pos {n g : Nat} (h : Root n g) {k : Nat} (hk : k ≤ n - 1) : 0 < g ^ k % n := by
  rcases Nat.eq_zero_or_pos (g ^ k % n) with h0 | h0
  · have h1 := h.inv hk
    have h2 : Cg n (g ^ (n - 1 - k) * g ^ k) (g ^ (n - 1 - k) * 0) := (Cg.refl n _).mul (by unfold Cg; rw [h0]; simp)
    have h3 := h1.symm.trans h2
    have := h.two
    unfold Cg at h3
    simp at h3
    omega
  · exact h0
theorem Root.inj {n g : Nat} (h : Root n g) {i j : Nat} (hi : i < n - 1) (hj : j < n - 1) (e : Cg n (g ^ i) (g ^ j)) : i = j := by
  have key : ∀ i j, i < j → j < n - 1 → Cg n (g ^ i) (g ^ j) → False := by
    intro i j hij hj e
    have e1 : Cg n (g ^ i * 1) (g ^ i * g ^ (j - i)) := by
      rw [Nat.mul_one, ← Nat.pow_add, show i + (j - i) = j by omega]; exact e
    have := Cg.cancel (h.inv (k := i) (by omega)) e1
    exact h.least (j - i) (by omega) (by omega) this.symm
  rcases Nat.lt_trichotomy i j with hlt | he | hlt
  · exact (key i j hlt hj e).elim
  · exact he
  · exact (key j i hlt hi e.symm).elim
theorem Root.all {n g : Nat} (h : Root n g) (x : Nat) (h0 : x % n ≠ 0) : ∃ k, k < n - 1 ∧ Cg n (g ^ k) x := by
  have h2 := h.two
  have hx := Nat.mod_lt x (show n > 0 by omega)
  obtain ⟨i, hi, he⟩ := pigeon (n - 1) (fun i => g ^ i % n - 1)
    (by intro i hi; have := Nat.mod_lt (g ^ i) (show n > 0 by omega); omega)
    (by
      intro i j hi hj e
      have p1 := h.pos (k := i) (by omega)
      have p2 := h.pos (k := j) (by omega)
      exact h.inj hi hj (show g ^ i % n = g ^ j % n by omega))
    (x % n - 1) (by omega)
  have p1 := h.pos (k := i) (by omega)
  exact ⟨i, hi, show g ^ i % n = x % n by omega⟩
theorem Root.prime {n g : Nat} (h : Root n g) : Prime n := by
  have h2 := h.two
  refine ⟨h2, fun d hd => ?_⟩
  have hdn : d ≤ n := Nat.le_of_dvd (by omega) hd
  by_cases he : d = n
  · exact .inr he
  left
  have hd0 : d ≠ 0 := by intro h0; subst h0; have := Nat.eq_zero_of_zero_dvd hd; omega
  obtain ⟨k, hk, hc⟩ := h.all d (by rw [Nat.mod_eq_of_lt (by omega)]; exact hd0)
  have h1 := h.inv (k := k) (by omega)
  have h3 : Cg n (g ^ (n - 1 - k) * d) 1 := ((Cg.refl n _).mul hc.symm).trans h1
  rw [Cg.one h2] at h3
  have h4 : d ∣ (g ^ (n - 1 - k) * d) % n := (Nat.dvd_mod_iff hd).2 ⟨g ^ (n - 1 - k), by rw [Nat.mul_comm]⟩
  rw [h3] at h4
  exact Nat.eq_one_of_dvd_one h4
theorem Root.fermat {n g : Nat} (h : Root n g) (x : Nat) (h0 : x % n ≠ 0) : Cg n (x ^ (n - 1)) 1 := by
  obtain ⟨k, _, hc⟩ := h.all x h0
  have h1 : Cg n (x ^ (n - 1)) ((g ^ k) ^ (n - 1)) := hc.symm.pow _
  rw [← Nat.pow_mul, Nat.mul_comm, Nat.pow_mul] at h1
  have h2 := h.one.pow k
  rw [Nat.one_pow] at h2
  exact h1.trans h2
theorem Cg.add_cancel {n x y c : Nat} (h : Cg n (x + c) (y + c)) : Cg n x y := by
  unfold Cg at *
  have h1 : ((x : Int) + c) % n = ((y : Int) + c) % n := by exact_mod_cast h
  rw [Int.emod_add_cancel_right] at h1
  exact_mod_cast h1
theorem inv_uniq {m a x y : Nat} (hx : x < m) (hy : y < m) (h1 : Cg m (x * a) 1) (h2 : Cg m (y * a) 1) : x = y := by
  have e1 : Cg m (x * (y * a)) (x * 1) := (Cg.refl m x).mul h2
  have e2 : Cg m (y * (x * a)) (y * 1) := (Cg.refl m y).mul h1
  rw [Nat.mul_left_comm] at e1
  rw [Nat.mul_one] at e1 e2
  exact (e1.symm.trans e2).eq hx hy
/-- one step of Euclid's way -/
theorem euclid_step {m a b n w i i' k t : Nat} (hw : Cg m (w * a) b) (hi : Cg m (i * a) n) (hk : k = b / n) (ht : Cg m t (k * i)) (hi' : Cg m (i' + t) w) : Cg m (i' * a) (b % n) := by
  have e1 : Cg m ((i' + t) * a) b := (hi'.mul (Cg.refl m a)).trans hw
  rw [Nat.add_mul] at e1
  have e2 : Cg m (t * a) (k * n) := (ht.mul (Cg.refl m a)).trans (by rw [Nat.mul_assoc]; exact (Cg.refl m k).mul hi)
  have e3 : Cg m (i' * a + t * a) (i' * a + k * n) := (Cg.refl m _).add e2
  have e4 := e3.symm.trans e1
  have e5 : b = b % n + k * n := by subst hk; rw [Nat.mul_comm]; exact (Nat.mod_add_div b n).symm
  have e6 : Cg m (i' * a + k * n) (b % n + k * n) := by rw [← e5]; exact e4
  exact e6.add_cancel
theorem gcd_step {b n : Nat} : Nat.gcd n (b % n) = Nat.gcd b n := by
  rw [Nat.gcd_comm b n]; exact (Nat.gcd_rec n b ▸ Nat.gcd_comm _ _)
/-- who has an inverse is prime to the modulus -/
theorem gcd_of_inv {m a x : Nat} (hm : 2 ≤ m) (h : Cg m (x * a) 1) : Nat.gcd m (a % m) = 1 := by
  have h1 : Nat.gcd m (a % m) ∣ (x * a) % m := by
    have hd : Nat.gcd m (a % m) ∣ x * (a % m) := Nat.dvd_trans (Nat.gcd_dvd_right _ _) (Nat.dvd_mul_left _ _)
    have : (x * a) % m = (x * (a % m)) % m := by rw [Nat.mul_mod, Nat.mul_mod x (a % m), Nat.mod_mod]
    rw [this]
    exact (Nat.dvd_mod_iff (Nat.gcd_dvd_left _ _)).2 hd
  rw [(Cg.one hm).1 h] at h1
  exact Nat.eq_one_of_dvd_one h1
end NT
end Go.Proofs.Ytfoncfojljmimaa
