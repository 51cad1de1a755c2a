/- Layer 10: WireLetters. -/
import Derived.Test.YtdbhcdhenapfoaaFewW
set_option linter.unusedVariables false
set_option linter.unusedSimpArgs false
namespace Go.Proofs.Ytdbhcdhenapfoaa
open Go.RowKit Go.Maps
theorem own_ints {w : World} {base : Nat} {a : Option Addr} {n c : Nat} {xs : List Int} (h : OwnI w base (.slice a n c) xs) : IntsAt w a n xs := by
  obtain ⟨a', n', c', e, h2⟩ := h.ints
  obtain ⟨e1, e2, e3⟩ := Value.slice.inj e
  subst e1 e2 e3
  exact h2
set_option maxHeartbeats 3200000 in
theorem lawLetters (x0 x1 x2 x3 x4 x5 : Int) (a1 : Option Addr) (n1 c1 : Nat) (a2 : Option Addr) (n2 c2 : Nat) (p : ProofD) (w : World) (hu : ∀ x ∈ [x0, x1, x2, x3, x4, x5], U64 x) (k1 : IntsAt w a1 n1 p.1) (k2 : IntsAt w a2 n2 p.2) :
    Calls Try.prog 4 #[.agg #[.int .u64 x0, .int .u64 x1, .int .u64 x2, .int .u64 x3, .int .u64 x4, .int .u64 x5, .slice a1 n1 c1, .slice a2 n2 c2]] w fun e w' => e = .returned (.bool true) ∧ Same w w' := by
  have K1 := Lib.hid k1
  have K2 := Lib.hid k2
  have HU := Lib.hid hu
  obtain ⟨lb, elb⟩ : ∃ lb, w.heap.size = lb := ⟨_, rfl⟩
  obtain ⟨w0, ew0⟩ : ∃ w0, w.alloc (.cells #[.int .u64 x0, .int .u64 x1, .int .u64 x2, .int .u64 x3, .int .u64 x4, .int .u64 x5, .slice a1 n1 c1, .slice a2 n2 c2] 39) = w0 := ⟨_, rfl⟩
  have hS0 : Same w w0 := by rw [← ew0]; exact (Same.refl w).alloc _
  have HB0 := Lib.hid (show w0.heap[lb]? = some (.cells #[.int .u64 x0, .int .u64 x1, .int .u64 x2, .int .u64 x3, .int .u64 x4, .int .u64 x5, .slice a1 n1 c1, .slice a2 n2 c2] 39 (0, 0)) by rw [← ew0, ← elb]; exact heap_new _ _)
  have HS0 := Lib.hid hS0
  have EW0 := Lib.hid ew0
  have ELB := Lib.hid elb
  clear k1 k2 hu ew0 elb hS0
  go_enter Try.func4, Try.ntmps4
  go_upto_region 1 with fail
  rw [EW0.out, ELB.out]
  go_wp2_with fail
  refine (awake_any w0).mono ?_
  rintro e w1 ⟨rfl, hs1⟩
  have HS1 := Lib.hid (HS0.out.trans hs1)
  have HB1 := Lib.hid (hs1.keep HB0.out)
  have g6 : w1.cell? ⟨lb, 6, none⟩ = some (.slice a1 n1 c1) := by rw [cell_at HB1.out]; rfl
  have g7 : w1.cell? ⟨lb, 7, none⟩ = some (.slice a2 n2 c2) := by rw [cell_at HB1.out]; rfl
  obtain ⟨w2, ew2⟩ : ∃ w2, w1.alloc (.cells #[.slice a1 n1 c1, .slice a2 n2 c2] 24) = w2 := ⟨_, rfl⟩
  obtain ⟨sb, esb⟩ : ∃ sb, w1.heap.size = sb := ⟨_, rfl⟩
  have hs2 : Same w1 w2 := by rw [← ew2]; exact (Same.refl w1).alloc _
  have hb2 : w2.heap[sb]? = some (.cells #[.slice a1 n1 c1, .slice a2 n2 c2] 24 (0, 0)) := by rw [← ew2, ← esb]; exact heap_new _ _
  have HSL := Lib.hid (show SlcAt w2 sb [n1, n2] from ⟨fun i hi => by
    have : i = 0 ∨ i = 1 := by simp at hi; omega
    rcases this with rfl | rfl
    · exact ⟨a1, c1, by rw [cell_at hb2]; rfl⟩
    · exact ⟨a2, c2, by rw [cell_at hb2]; rfl⟩⟩)
  have HS2 := Lib.hid (HS1.out.trans hs2)
  have HB2 := Lib.hid (hs2.keep HB1.out)
  have EW2 := Lib.hid ew2
  have ESB := Lib.hid esb
  clear hs1 hs2 hb2 ew2 esb
  go_wp2_with fail
  rw [EW2.out, ESB.out]
  refine (few_any sb [n1, n2] 2 2 rfl (by omega) w2 HSL.out).mono ?_
  rintro e w2' ⟨rfl, rfl⟩
  obtain ⟨fb, efb⟩ : ∃ fb, fewB [n1, n2] = fb := ⟨_, rfl⟩
  rw [efb]
  clear g6 g7
  cases fb
  · go_wp2_with fail
    go_ret
    exact ⟨rfl, HS2.out⟩
  obtain ⟨g0, g1, g2, g3, g4, g5, g6, g7⟩ := let_cells HB2.out
  go_wp2_with fail
  refine (wLetter_any x0 x1 x2 x3 x4 x5 a1 n1 c1 a2 n2 c2 p w2' HU.out (K1.out.same HS2.out) (K2.out.same HS2.out)).mono ?_
  rintro e w3 ⟨hs3, hW⟩
  have HS3 := Lib.hid (HS2.out.trans hs3)
  have HB3 := Lib.hid (hs3.keep HB2.out)
  clear hs3 g0 g1 g2 g3 g4 g5 g6 g7
  obtain ⟨g0, g1, g2, g3, g4, g5, g6, g7⟩ := let_cells HB3.out
  by_cases hok : letterC.ok ([x0, x1, x2, x3, x4, x5], p)
  · obtain ⟨_, rfl⟩ := hW.resolve_right (fun h => h.1 hok)
    obtain ⟨L, eL⟩ : ∃ L, (1 : UInt8) :: letterC.enc ([x0, x1, x2, x3, x4, x5], p) = L := ⟨_, rfl⟩
    have HRD := Lib.hid (show rd 1 letterC L = some ([x0, x1, x2, x3, x4, x5], p) by rw [← eL]; exact rd_wr hok)
    have hll : L.length ≤ 1000000000 := by rw [← eL, List.length_cons]; have := letter_len hok; omega
    obtain ⟨t, et⟩ : ∃ t, ofL L = t := ⟨_, rfl⟩
    have HEL := Lib.hid eL
    have HET := Lib.hid et
    rw [eL, et]
    have hne : (t.toList != t.toList) = false := by simp
    clear eL et hW
    go_wp2_with fail
    refine (rLetter_any x0 x1 x2 x3 x4 x5 a1 n1 c1 a2 n2 c2 p w3 HU.out (K1.out.same HS3.out) (K2.out.same HS3.out)).mono ?_
    rintro e w4 ⟨hs4, hW⟩
    obtain ⟨_, rfl⟩ := hW.resolve_right (fun h => h.1 hok)
    rw [HEL.out, HET.out]
    have HS4 := Lib.hid (HS3.out.trans hs4)
    have HB4 := Lib.hid (hs4.keep HB3.out)
    clear hs4 hW g0 g1 g2 g3 g4 g5 g6 g7
    go_wp2_with fail
    rw [← HET.out]
    refine (readLetter_any L hll w4).mono ?_
    rintro e w5 ⟨hs5, (⟨x, y0, y1, y2, y3, y4, y5, b1, m1, d1, b2, m2, d2, hr, e1, rfl, o1, o2⟩ | ⟨hr, rfl⟩)⟩
    case inr => rw [HRD.out] at hr; cases hr
    rw [HRD.out] at hr
    injection hr with hr
    subst hr
    simp only at e1 o1 o2
    injection e1 with q0 e1
    injection e1 with q1 e1
    injection e1 with q2 e1
    injection e1 with q3 e1
    injection e1 with q4 e1
    injection e1 with q5 e1
    subst q0 q1 q2 q3 q4 q5
    have HS5 := Lib.hid (HS4.out.trans hs5)
    have HB5 := Lib.hid (hs5.keep HB4.out)
    have O1 := Lib.hid (own_ints o1)
    have O2 := Lib.hid (own_ints o2)
    obtain ⟨yb, eyb⟩ : ∃ yb, w5.heap.size = yb := ⟨_, rfl⟩
    obtain ⟨w6, ew6⟩ : ∃ w6, w5.alloc (.cells #[.int .u64 x0, .int .u64 x1, .int .u64 x2, .int .u64 x3, .int .u64 x4, .int .u64 x5, .slice b1 m1 d1, .slice b2 m2 d2] 39) = w6 := ⟨_, rfl⟩
    have hs6 : Same w5 w6 := by rw [← ew6]; exact (Same.refl w5).alloc _
    have HY6 := Lib.hid (show w6.heap[yb]? = some (.cells #[.int .u64 x0, .int .u64 x1, .int .u64 x2, .int .u64 x3, .int .u64 x4, .int .u64 x5, .slice b1 m1 d1, .slice b2 m2 d2] 39 (0, 0)) by rw [← ew6, ← eyb]; exact heap_new _ _)
    have HB6 := Lib.hid (hs6.keep HB5.out)
    have HS6 := Lib.hid (HS5.out.trans hs6)
    have P1 := Lib.hid (O1.out.same hs6)
    have P2 := Lib.hid (O2.out.same hs6)
    have EW6 := Lib.hid ew6
    have EYB := Lib.hid eyb
    obtain ⟨g0, g1, g2, g3, g4, g5, g6, g7⟩ := let_cells HB6.out
    obtain ⟨r0, r1, r2, r3, r4, r5, r6, r7⟩ := let_cells HY6.out
    have hbs := box_self x0 x1 x2 x3 x4 x5
    rw [HET.out]
    clear hs5 hs6 o1 o2 ew6 eyb e1
    go_upto_region 10 with fail
    rw [EW6.out, EYB.out]
    go_wp2_with fail
    refine (rsamep_yes a1 n1 c1 a2 n2 c2 b1 m1 d1 b2 m2 d2 p w6 (K1.out.same HS6.out) (K2.out.same HS6.out) P1.out P2.out).mono ?_
    rintro e w7 ⟨rfl, hs7⟩
    have HS7 := Lib.hid (HS6.out.trans hs7)
    clear hs7 g0 g1 g2 g3 g4 g5 g6 g7 r0 r1 r2 r3 r4 r5 r6 r7
    go_wp2_with fail
    go_ret
    exact ⟨rfl, HS7.out⟩
  · obtain ⟨_, rfl⟩ := hW.resolve_left (fun h => hok h.1)
    clear hW
    go_wp2_with fail
    refine (rLetter_any x0 x1 x2 x3 x4 x5 a1 n1 c1 a2 n2 c2 p w3 HU.out (K1.out.same HS3.out) (K2.out.same HS3.out)).mono ?_
    rintro e w4 ⟨hs4, hW⟩
    obtain ⟨_, rfl⟩ := hW.resolve_left (fun h => hok h.1)
    have HS4 := Lib.hid (HS3.out.trans hs4)
    clear hs4 hW g0 g1 g2 g3 g4 g5 g6 g7
    go_wp2_with fail
    refine (readLetter_any [] (by simp) w4).mono ?_
    rintro e w5 ⟨hs5, (⟨x, y0, y1, y2, y3, y4, y5, b1, m1, d1, b2, m2, d2, hr, e1, rfl, o1, o2⟩ | ⟨hr, rfl⟩)⟩
    · cases hr
    have HS5 := Lib.hid (HS4.out.trans hs5)
    clear hs5
    go_wp2_with fail
    go_ret
    exact ⟨rfl, HS5.out.trans ((Same.refl _).alloc _)⟩
end Go.Proofs.Ytdbhcdhenapfoaa
