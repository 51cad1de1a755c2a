/- The walks of PrimeTrue, PrimeBegins and PrimeFermat. -/
import Derived.Test.YtkladabdaimkiaaLaw2
set_option linter.unusedVariables false
set_option linter.unusedSimpArgs false
namespace Go.Proofs.Ytkladabdaimkiaa
open Go.RowKit NT
theorem prime_emod {n d : Int} (hp : Prime n.toNat) (h2 : 2 ≤ d) (hd : d * d ≤ n) : n % d ≠ 0 := by
  intro h
  have hn : 2 ≤ n := by have := hp.1; omega
  obtain ⟨n, rfl⟩ := Int.eq_ofNat_of_zero_le (show 0 ≤ n by omega)
  obtain ⟨d, rfl⟩ := Int.eq_ofNat_of_zero_le (show 0 ≤ d by omega)
  have hd' : d ∣ n := Nat.dvd_of_mod_eq_zero (by rw [← Int.natCast_emod] at h; omega)
  have hd2 : d * d ≤ n := by exact_mod_cast hd
  rcases hp.2 d (by simpa using hd') with h1 | h1
  · omega
  · have h3 : d = n := by simpa using h1
    have h4 : 2 * d ≤ d * d := Nat.mul_le_mul_right d (by omega)
    omega
theorem lawTrue (a : Option Addr) (n cap : Nat) (x : Int) (rs : List RowD) (w : World) (h : RowsAt w a n rs) (hx : U64 x) :
    Calls Try.prog 4 #[.slice a n cap, .int .u64 x] w fun e w' => e = .returned (.bool true) ∧ Same w w' := by
  have hF := rows_fine h
  obtain ⟨x0, x1⟩ := hx
  by_cases hs : SmallP rs
  · have hb := smallB_yes hs
    have HB := Lib.hid hb
    clear hb hs
    by_cases hx7 : x ≤ 10000000
    · have d7 : decide ((10000000 : Int) < x) = false := decide_eq_false (by omega)
      by_cases hp : ProvedP x rs
      · obtain ⟨hx2, _, g, hg⟩ := proved_root hF hp
        have hpr := hg.prime
        have HPr := Lib.hid hpr
        have hv := provedB_yes hp
        have HV := Lib.hid hv
        clear hpr hv hg hp hF
        go_enter Try.func4, Try.ntmps4
        go_wp2_with fail
        refine (awake2 _).mono ?_
        rintro e1 w1 ⟨rfl, hS1⟩
        go_wp2_with fail
        refine (small_any a n cap rs _ (h.same hS1)).mono ?_
        rintro e1 w2 ⟨rfl, hS2⟩
        rw [HB.out]
        go_wp2_with fail
        refine (proved_any x a n cap rs _ (h.same (hS1.trans hS2)) ⟨x0, x1⟩).mono ?_
        rintro e1 w3 ⟨rfl, hS3⟩
        rw [HV.out]
        have HS := Lib.hid ((hS1.trans hS2).trans hS3)
        clear hS1 hS2 hS3 h
        go_wp2_with fail
        go_loop [5] (fun s5 => ∃ d : Int, s5 = .int .u64 d ∧ 2 ≤ d ∧ d ≤ 3163) (fun s5 => 4000 - (intOf s5).toNat)
        case atStart => exact ⟨2, rfl, by omega, by omega⟩
        case round =>
          obtain ⟨d, rfl, h2, h3⟩ := hrel
          obtain ⟨D, hD⟩ : ∃ D, D = d * d := ⟨_, rfl⟩
          have hDl : D ≤ 3163 * 3163 := by rw [hD]; exact Int.mul_le_mul h3 h3 (by omega) (by omega)
          have hD0 : 0 ≤ D := by rw [hD]; exact Int.mul_nonneg (by omega) (by omega)
          have ew : IntKind.u64.wrap (d * d) = D := by rw [IntKind.wrap_u64, ← hD]; omega
          have HD := Lib.hid hD
          clear hD
          by_cases hc : D ≤ x
          · have hm := prime_emod HPr.out h2 (by rw [← HD.out]; exact hc)
            have hm' : ((x % d : Int) == 0) = false := by rw [beq_eq_false_iff_ne]; exact hm
            have hd3 : d ≤ 3162 := by
              rcases Int.lt_or_le d 3163 with h | h
              · omega
              · have : d = 3163 := by omega
                have h5 := HD.out
                rw [this] at h5
                omega
            clear hm hDl
            go_wp2_with fail
            go_round
            case rel => exact ⟨d + 1, rfl, by omega, by omega⟩
            case measure => simp [intOf]; omega
          · clear hDl
            go_wp2_with fail
            go_ret
            exact ⟨rfl, HS.out⟩
      · have hv := provedB_no hp
        have HV := Lib.hid hv
        clear hv hp hF
        go_enter Try.func4, Try.ntmps4
        go_wp2_with fail
        refine (awake2 _).mono ?_
        rintro e1 w1 ⟨rfl, hS1⟩
        go_wp2_with fail
        refine (small_any a n cap rs _ (h.same hS1)).mono ?_
        rintro e1 w2 ⟨rfl, hS2⟩
        rw [HB.out]
        go_wp2_with fail
        refine (proved_any x a n cap rs _ (h.same (hS1.trans hS2)) ⟨x0, x1⟩).mono ?_
        rintro e1 w3 ⟨rfl, hS3⟩
        rw [HV.out]
        go_wp2_with fail
        go_ret
        exact ⟨rfl, (hS1.trans hS2).trans hS3⟩
    · have d7 : decide ((10000000 : Int) < x) = true := decide_eq_true (by omega)
      clear hF
      go_enter Try.func4, Try.ntmps4
      go_wp2_with fail
      refine (awake2 _).mono ?_
      rintro e1 w1 ⟨rfl, hS1⟩
      go_wp2_with fail
      refine (small_any a n cap rs _ (h.same hS1)).mono ?_
      rintro e1 w2 ⟨rfl, hS2⟩
      rw [HB.out]
      go_wp2_with fail
      go_ret
      exact ⟨rfl, hS1.trans hS2⟩
  · have hb := smallB_no hs
    have HB := Lib.hid hb
    clear hb hs hF
    go_enter Try.func4, Try.ntmps4
    go_wp2_with fail
    refine (awake2 _).mono ?_
    rintro e1 w1 ⟨rfl, hS1⟩
    go_wp2_with fail
    refine (small_any a n cap rs _ (h.same hS1)).mono ?_
    rintro e1 w2 ⟨rfl, hS2⟩
    rw [HB.out]
    go_wp2_with fail
    go_ret
    exact ⟨rfl, hS1.trans hS2⟩
/-- Fermat, and the inverse -/
theorem fermat_facts {x y : Int} (hx2 : 2 ≤ x) (hx : x ≤ 4611686018427387904) (hy : 0 ≤ y) {g : Nat} (hg : Root x.toNat g) :
    (y % x = 0 → powI y (x - 1) x = 0) ∧ (y % x ≠ 0 → powI y (x - 1) x = 1 ∧ HasInv y.toNat x.toNat ∧ mulS y.toNat (invS y.toNat x.toNat) x.toNat = 1) := by
  obtain ⟨x, rfl⟩ := Int.eq_ofNat_of_zero_le (show 0 ≤ x by omega)
  obtain ⟨y, rfl⟩ := Int.eq_ofNat_of_zero_le hy
  have hM : Modulus x := ⟨by omega, by omega⟩
  rw [powI_eq hx2 hx]
  simp only [Int.toNat_natCast] at hg ⊢
  rw [show ((x : Int) - 1).toNat = x - 1 by omega, ← Int.natCast_emod]
  constructor
  · intro h
    have h' : y % x = 0 := by omega
    have : y ^ (x - 1) % x = 0 := by
      rw [Nat.pow_mod, h', Nat.zero_pow (by omega), Nat.zero_mod]
    rw [this]; rfl
  · intro h
    have h' : y % x ≠ 0 := by omega
    have hf := hg.fermat y h'
    have h1 := (Cg.one hM.1).1 hf
    have hi : HasInv y x := ⟨hM, y ^ (x - 2) % x, Nat.mod_lt _ (by omega), by
      refine ((Cg.mod x _).mul (Cg.refl x y)).trans ?_
      rw [← Nat.pow_succ, show (x - 2).succ = x - 1 by omega]
      exact hf⟩
    refine ⟨by rw [h1]; rfl, hi, ?_⟩
    rw [mulS_yes hM, Nat.mul_comm]
    exact (Cg.one hM.1).1 (invS_spec hi).2
theorem lawFermat (a : Option Addr) (n cap : Nat) (x y : Int) (rs : List RowD) (w : World) (h : RowsAt w a n rs) (hx : U64 x) (hy : U64 y) :
    Calls Try.prog 6 #[.slice a n cap, .int .u64 x, .int .u64 y] w fun e w' => e = .returned (.bool true) ∧ Same w w' := by
  have hF := rows_fine h
  obtain ⟨x0, x1⟩ := hx
  obtain ⟨y0, y1⟩ := hy
  by_cases hs : SmallP rs
  · have hb := smallB_yes hs
    have HB := Lib.hid hb
    clear hb hs
    by_cases hp : ProvedP x rs
    · obtain ⟨hx2, hxm, g, hg⟩ := proved_root hF hp
      obtain ⟨f1, f2⟩ := fermat_facts hx2 hxm y0 hg
      have hv := provedB_yes hp
      have HV := Lib.hid hv
      clear hv hg hp hF
      by_cases hz : y % x = 0
      · have hz' : ((y % x : Int) == 0) = true := by rw [hz]; rfl
        have HF := Lib.hid (f1 hz)
        clear f1 f2 hz
        go_enter Try.func6, Try.ntmps6
        go_wp2_with fail
        refine (awake2 _).mono ?_
        rintro e1 w1 ⟨rfl, hS1⟩
        go_wp2_with fail
        refine (small_any a n cap rs _ (h.same hS1)).mono ?_
        rintro e1 w2 ⟨rfl, hS2⟩
        rw [HB.out]
        go_wp2_with fail
        refine (proved_any x a n cap rs _ (h.same (hS1.trans hS2)) ⟨x0, x1⟩).mono ?_
        rintro e1 w3 ⟨rfl, hS3⟩
        rw [HV.out]
        have HS := Lib.hid ((hS1.trans hS2).trans hS3)
        clear hS1 hS2 hS3 h
        go_wp2_with fail
        refine (pow_any y (x - 1) x y0 (by omega) (by omega) x0 _).mono ?_
        rintro e1 w4 ⟨rfl, hD4⟩
        rw [show (powS y.toNat (x - 1).toNat x.toNat : Int) = 0 from HF.out]
        go_wp2_with fail
        go_ret
        exact ⟨rfl, HS.out.drawn hD4⟩
      · have hz' : ((y % x : Int) == 0) = false := by rw [beq_eq_false_iff_ne]; exact hz
        obtain ⟨g1, g2, g3⟩ := f2 hz
        have G1 := Lib.hid g1
        have G2 := Lib.hid (hasB_yes g2)
        obtain ⟨v, hv⟩ : ∃ v, v = invS y.toNat x.toNat := ⟨_, rfl⟩
        rw [← hv] at g3
        have G3 := Lib.hid g3
        have HVv := Lib.hid hv
        clear f1 f2 hz g1 g2 g3 hv
        go_enter Try.func6, Try.ntmps6
        go_wp2_with fail
        refine (awake2 _).mono ?_
        rintro e1 w1 ⟨rfl, hS1⟩
        go_wp2_with fail
        refine (small_any a n cap rs _ (h.same hS1)).mono ?_
        rintro e1 w2 ⟨rfl, hS2⟩
        rw [HB.out]
        go_wp2_with fail
        refine (proved_any x a n cap rs _ (h.same (hS1.trans hS2)) ⟨x0, x1⟩).mono ?_
        rintro e1 w3 ⟨rfl, hS3⟩
        rw [HV.out]
        have HS := Lib.hid ((hS1.trans hS2).trans hS3)
        clear hS1 hS2 hS3 h
        go_wp2_with fail
        refine (inv_any y x y0 x0 _).mono ?_
        rintro e1 w4 ⟨rfl, hD4⟩
        rw [← HVv.out, G2.out]
        go_wp2_with fail
        refine (pow_any y (x - 1) x y0 (by omega) (by omega) x0 _).mono ?_
        rintro e1 w5 ⟨rfl, hD5⟩
        rw [show (powS y.toNat (x - 1).toNat x.toNat : Int) = 1 from G1.out]
        go_wp2_with fail
        refine (mul_any y v x y0 (by omega) x0 _).mono ?_
        rintro e1 w6 ⟨rfl, hD6⟩
        rw [show mulS y.toNat (v : Int).toNat x.toNat = 1 from G3.out]
        go_wp2_with fail
        go_ret
        exact ⟨rfl, ((HS.out.drawn hD4).drawn hD5).drawn hD6⟩
    · have hv := provedB_no hp
      have HV := Lib.hid hv
      clear hv hp hF
      go_enter Try.func6, Try.ntmps6
      go_wp2_with fail
      refine (awake2 _).mono ?_
      rintro e1 w1 ⟨rfl, hS1⟩
      go_wp2_with fail
      refine (small_any a n cap rs _ (h.same hS1)).mono ?_
      rintro e1 w2 ⟨rfl, hS2⟩
      rw [HB.out]
      go_wp2_with fail
      refine (proved_any x a n cap rs _ (h.same (hS1.trans hS2)) ⟨x0, x1⟩).mono ?_
      rintro e1 w3 ⟨rfl, hS3⟩
      rw [HV.out]
      go_wp2_with fail
      go_ret
      exact ⟨rfl, (hS1.trans hS2).trans hS3⟩
  · have hb := smallB_no hs
    have HB := Lib.hid hb
    clear hb hs hF
    go_enter Try.func6, Try.ntmps6
    go_wp2_with fail
    refine (awake2 _).mono ?_
    rintro e1 w1 ⟨rfl, hS1⟩
    go_wp2_with fail
    refine (small_any a n cap rs _ (h.same hS1)).mono ?_
    rintro e1 w2 ⟨rfl, hS2⟩
    rw [HB.out]
    go_wp2_with fail
    go_ret
    exact ⟨rfl, hS1.trans hS2⟩
theorem RowsAt.take {w : World} {a : Option Addr} {n : Nat} {rs : List RowD} (h : RowsAt w a n rs) {k : Nat} (hk : k ≤ n) : RowsAt w a k (rs.take k) := by
  refine ⟨by simp [h.len]; omega, by have := h.small; omega, fun h0 => ?_⟩
  obtain ⟨b, off, e, hc⟩ := h.rows (by omega)
  exact ⟨b, off, e, fun j hj => by rw [take_getD hj]; exact hc j (by omega)⟩
theorem lawBegins (a : Option Addr) (n cap : Nat) (x k : Int) (rs : List RowD) (w : World) (h : RowsAt w a n rs) (hc : n ≤ cap) (hcm : cap ≤ 9223372036854775807) (hx : U64 x) (k0 : -9223372036854775808 ≤ k) (k1 : k < 9223372036854775808) :
    Calls Try.prog 5 #[.slice a n cap, .int .u64 x, .int .i64 k] w fun e w' => e = .returned (.bool true) ∧ Same w w' := by
  have hlen := h.len
  have hsmall := h.small
  by_cases hs : SmallP rs
  case neg =>
    have hb := smallB_no hs
    have HB := Lib.hid hb
    clear hb hs hlen
    go_enter Try.func5, Try.ntmps5
    go_wp2_with fail
    refine (awake2 _).mono ?_
    rintro e1 w1 ⟨rfl, hS1⟩
    go_wp2_with fail
    refine (small_any a n cap rs _ (h.same hS1)).mono ?_
    rintro e1 w2 ⟨rfl, hS2⟩
    rw [HB.out]
    go_wp2_with fail
    go_ret
    exact ⟨rfl, hS1.trans hS2⟩
  have hb := smallB_yes hs
  have HB := Lib.hid hb
  clear hb hs
  by_cases g1 : k < 0
  · have d1 : decide (k < 0) = true := decide_eq_true g1
    clear hlen
    go_enter Try.func5, Try.ntmps5
    go_wp2_with fail
    refine (awake2 _).mono ?_
    rintro e1 w1 ⟨rfl, hS1⟩
    go_wp2_with fail
    refine (small_any a n cap rs _ (h.same hS1)).mono ?_
    rintro e1 w2 ⟨rfl, hS2⟩
    rw [HB.out]
    go_wp2_with fail
    go_ret
    exact ⟨rfl, hS1.trans hS2⟩
  have d1 : decide (k < 0) = false := decide_eq_false g1
  obtain ⟨k, rfl⟩ := Int.eq_ofNat_of_zero_le (show 0 ≤ k by omega)
  by_cases g2 : n < k
  · have d2 : decide ((n : Int) < k) = true := decide_eq_true (by omega)
    clear hlen
    go_enter Try.func5, Try.ntmps5
    go_wp2_with fail
    refine (awake2 _).mono ?_
    rintro e1 w1 ⟨rfl, hS1⟩
    go_wp2_with fail
    refine (small_any a n cap rs _ (h.same hS1)).mono ?_
    rintro e1 w2 ⟨rfl, hS2⟩
    rw [HB.out]
    go_wp2_with fail
    go_ret
    exact ⟨rfl, hS1.trans hS2⟩
  have d2 : decide ((n : Int) < k) = false := decide_eq_false (by omega)
  by_cases hA : AllOk rs
  case neg =>
    have hh := holdsB_no hA
    have HH := Lib.hid hh
    clear hh hA hlen
    go_enter Try.func5, Try.ntmps5
    go_wp2_with fail
    refine (awake2 _).mono ?_
    rintro e1 w1 ⟨rfl, hS1⟩
    go_wp2_with fail
    refine (small_any a n cap rs _ (h.same hS1)).mono ?_
    rintro e1 w2 ⟨rfl, hS2⟩
    rw [HB.out]
    go_wp2_with fail
    refine (holds_any a n cap rs _ (h.same (hS1.trans hS2))).mono ?_
    rintro e1 w3 ⟨rfl, hS3⟩
    rw [HH.out]
    go_wp2_with fail
    go_ret
    exact ⟨rfl, (hS1.trans hS2).trans hS3⟩
  have hh := holdsB_yes hA
  have HH := Lib.hid hh
  have hh2 := holdsB_yes (allOk_take (k := k) (by omega) hA)
  have HH2 := Lib.hid hh2
  have himp : provedB x (rs.take k) = true → provedB x rs = true := fun hp => provedB_yes (proved_take (by omega) hA (provedB_iff.1 hp))
  have HI := Lib.hid himp
  have HX := Lib.hid hx
  clear hh hh2 himp hA hlen hx
  go_enter Try.func5, Try.ntmps5
  go_wp2_with fail
  refine (awake2 _).mono ?_
  rintro e1 w1 ⟨rfl, hS1⟩
  go_wp2_with fail
  refine (small_any a n cap rs _ (h.same hS1)).mono ?_
  rintro e1 w2 ⟨rfl, hS2⟩
  rw [HB.out]
  go_wp2_with fail
  refine (holds_any a n cap rs _ (h.same (hS1.trans hS2))).mono ?_
  rintro e1 w3 ⟨rfl, hS3⟩
  rw [HH.out]
  have h3 := h.same ((hS1.trans hS2).trans hS3)
  have HS3 := Lib.hid ((hS1.trans hS2).trans hS3)
  clear hS1 hS2 hS3 h
  go_wp2_with fail
  refine (holds_any a k cap (rs.take k) _ (h3.take (by omega))).mono ?_
  rintro e1 w4 ⟨rfl, hS4⟩
  rw [HH2.out]
  go_wp2_with fail
  refine (proved_any x a k cap (rs.take k) _ ((h3.same hS4).take (by omega)) HX.out).mono ?_
  rintro e1 w5 ⟨rfl, hS5⟩
  obtain ⟨p1, hp1⟩ : ∃ p1, p1 = provedB x (rs.take k) := ⟨_, rfl⟩
  rw [← hp1] at HI ⊢
  clear hp1
  cases p1 with
  | false =>
    go_wp2_with fail
    go_ret
    exact ⟨rfl, (HS3.out.trans hS4).trans hS5⟩
  | true =>
    have HT := Lib.hid (HI.out rfl)
    clear HI
    go_wp2_with fail
    refine (proved_any x a n cap rs _ ((h3.same hS4).same hS5) HX.out).mono ?_
    rintro e1 w6 ⟨rfl, hS6⟩
    rw [HT.out]
    go_wp2_with fail
    go_ret
    exact ⟨rfl, ((HS3.out.trans hS4).trans hS5).trans hS6⟩
end Go.Proofs.Ytkladabdaimkiaa
