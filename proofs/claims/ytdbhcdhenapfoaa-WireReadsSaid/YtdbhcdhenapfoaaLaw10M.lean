/- Layer 10: WireMixings. -/
import Derived.Test.YtdbhcdhenapfoaaOwnX
set_option linter.unusedVariables false
set_option linter.unusedSimpArgs false
namespace Go.Proofs.Ytdbhcdhenapfoaa
open Go.RowKit Go.Maps
theorem mix_len {x : MixD} (h : mixC.ok x) : (mixC.enc x).length ≤ 20000 := by
  obtain ⟨ls, bs, xa, xo, xp, pr⟩ := x
  have h1 := listC_len h.1 (fun x hx => letter_len hx)
  have h2 := listC_len h.2.1 (fun x hx => Nat.le_of_eq (box_len (hx : boxC.ok x).1))
  have h3 : (numsC.enc xa).length ≤ 514 := nums_len h.2.2.1
  have h4 : (numsC.enc xo).length ≤ 514 := nums_len h.2.2.2.1
  have h5 : (numsC.enc xp).length ≤ 514 := nums_len h.2.2.2.2.1
  have h6 : (proofC.enc pr).length ≤ 1028 := proof_len h.2.2.2.2.2
  show ((listC 8 letterC).enc ls ++ ((listC 8 boxC).enc bs ++ (numsC.enc xa ++ (numsC.enc xo ++ (numsC.enc xp ++ proofC.enc pr))))).length ≤ _
  simp only [List.length_append]
  simp only at h1 h2
  omega
theorem slc_at {w : World} {b : Nat} {t : TypeId} (ads : List (Option Addr)) (ns cs : List Nat) (h : w.heap[b]? = some (.cells ((List.range ns.length).map fun i => Value.slice (ads.getD i none) (ns.getD i 0) (cs.getD i 0)).toArray t (0, 0))) : SlcAt w b ns :=
  ⟨fun i hi => ⟨ads.getD i none, cs.getD i 0, by rw [cell_at h]; simp [hi]⟩⟩
set_option maxRecDepth 20000 in
set_option maxHeartbeats 6400000 in
theorem lawMixings (a0 : Option Addr) (n0 c0 : Nat) (a1 : Option Addr) (n1 c1 : Nat) (a2 : Option Addr) (n2 c2 : Nat) (a3 : Option Addr) (n3 c3 : Nat) (a4 : Option Addr) (n4 c4 : Nat) (a5 : Option Addr) (n5 c5 : Nat) (a6 : Option Addr) (n6 c6 : Nat) (x : MixD) (w : World) (hx : MixIn w a0 n0 a1 n1 a2 n2 a3 n3 a4 n4 a5 n5 a6 n6 x) :
    Calls Try.prog 3 #[.agg #[.slice a0 n0 c0, .slice a1 n1 c1, .slice a2 n2 c2, .slice a3 n3 c3, .slice a4 n4 c4, .slice a5 n5 c5, .slice a6 n6 c6]] w fun e w' => e = .returned (.bool true) ∧ Same w w' := by
  have HI := Lib.hid hx
  obtain ⟨lb, elb⟩ : ∃ lb, w.heap.size = lb := ⟨_, rfl⟩
  obtain ⟨w0, ew0⟩ : ∃ w0, w.alloc (.cells #[.slice a0 n0 c0, .slice a1 n1 c1, .slice a2 n2 c2, .slice a3 n3 c3, .slice a4 n4 c4, .slice a5 n5 c5, .slice a6 n6 c6] 30) = w0 := ⟨_, rfl⟩
  have hS0 : Same w w0 := by rw [← ew0]; exact (Same.refl w).alloc _
  have HB0 := Lib.hid (show w0.heap[lb]? = some (.cells #[.slice a0 n0 c0, .slice a1 n1 c1, .slice a2 n2 c2, .slice a3 n3 c3, .slice a4 n4 c4, .slice a5 n5 c5, .slice a6 n6 c6] 30 (0, 0)) by rw [← ew0, ← elb]; exact heap_new _ _)
  have HS0 := Lib.hid hS0
  have EW0 := Lib.hid ew0
  have ELB := Lib.hid elb
  clear hx ew0 elb hS0
  go_enter Try.func3, Try.ntmps3
  go_upto_region 1 with fail
  rw [EW0.out, ELB.out]
  go_wp2_with fail
  refine (awake_any w0).mono ?_
  rintro e w1 ⟨rfl, hs1⟩
  have HS1 := Lib.hid (HS0.out.trans hs1)
  have HB1 := Lib.hid (hs1.keep HB0.out)
  obtain ⟨g0, g1, g2, g3, g4, g5, g6⟩ := mix_cells HB1.out
  clear hs1
  by_cases hb0 : n0 ≤ 20
  case neg =>
    have d0 : decide ((n0 : Int) > 20) = true := decide_eq_true (by omega)
    go_wp2_with fail
    go_ret
    exact ⟨rfl, HS1.out⟩
  have d0 : decide ((n0 : Int) > 20) = false := decide_eq_false (by omega)
  by_cases hb1 : n1 ≤ 20
  case neg =>
    have d1 : decide ((n1 : Int) > 20) = true := decide_eq_true (by omega)
    go_wp2_with fail
    go_ret
    exact ⟨rfl, HS1.out⟩
  have d1 : decide ((n1 : Int) > 20) = false := decide_eq_false (by omega)
  obtain ⟨w2, ew2⟩ : ∃ w2, w1.alloc (.cells #[.slice a2 n2 c2, .slice a3 n3 c3, .slice a4 n4 c4, .slice a5 n5 c5, .slice a6 n6 c6] 24) = w2 := ⟨_, rfl⟩
  obtain ⟨sb, esb⟩ : ∃ sb, w1.heap.size = sb := ⟨_, rfl⟩
  have hs2 : Same w1 w2 := by rw [← ew2]; exact (Same.refl w1).alloc _
  have hb2 : w2.heap[sb]? = some (.cells #[.slice a2 n2 c2, .slice a3 n3 c3, .slice a4 n4 c4, .slice a5 n5 c5, .slice a6 n6 c6] 24 (0, 0)) := by rw [← ew2, ← esb]; exact heap_new _ _
  have HSL := Lib.hid (show SlcAt w2 sb [n2, n3, n4, n5, n6] from slc_at [a2, a3, a4, a5, a6] [n2, n3, n4, n5, n6] [c2, c3, c4, c5, c6] hb2)
  have HS2 := Lib.hid (HS1.out.trans hs2)
  have HB2 := Lib.hid (hs2.keep HB1.out)
  have EW2 := Lib.hid ew2
  have ESB := Lib.hid esb
  clear hs2 hb2 ew2 esb
  go_wp2_with fail
  rw [EW2.out, ESB.out]
  refine (few_any sb [n2, n3, n4, n5, n6] 5 5 rfl (by omega) w2 HSL.out).mono ?_
  rintro e w2' ⟨rfl, rfl⟩
  obtain ⟨fb, efb⟩ : ∃ fb, fewB [n2, n3, n4, n5, n6] = fb := ⟨_, rfl⟩
  rw [efb]
  clear g0 g1 g2 g3 g4 g5 g6 d0 d1
  cases fb
  · go_wp2_with fail
    go_ret
    exact ⟨rfl, HS2.out⟩
  obtain ⟨g0, g1, g2, g3, g4, g5, g6⟩ := mix_cells HB2.out
  have hn0 : (0 : Int) ≤ n0 := by omega
  go_wp2_with fail
  clear g0 g1 g2 g3 g4 g5 g6
  go_loopw [48] (fun s48 wr => ∃ i : Nat, s48 = .int .i64 i ∧ i ≤ n0 ∧ Hid (Same w2' wr)) (fun s48 _ => n0 - (intOf s48).toNat)
  case atStart => exact ⟨0, rfl, by omega, Lib.hid (Same.refl _)⟩
  case round =>
    obtain ⟨i, rfl, hi', hH⟩ := hrel
    obtain ⟨wo, rfl⟩ : ∃ wz, wz = wr := ⟨_, rfl⟩
    have HSo := Lib.hid (HS2.out.trans hH.out)
    have HBo := Lib.hid (hH.out.keep HB2.out)
    by_cases hlt : i < n0
    · have hi0 : (0 : Int) ≤ i := by omega
      have hi1 : (i : Int) < n0 := by omega
      obtain ⟨bk, off, x0, x1, x2, x3, x4, x5, ya, yn, yc, za, zn, zc, rfl, e2, hu, hc, q1, q2⟩ := (HI.out.o0.same HSo.out).it i hlt
      have HLT : LtAt wo bk (off + i * 8) x0 x1 x2 x3 x4 x5 ya yn yc za zn zc := ⟨hc 0 (by omega), hc 1 (by omega), hc 2 (by omega), hc 3 (by omega), hc 4 (by omega), hc 5 (by omega), hc 6 (by omega), hc 7 (by omega)⟩
      obtain ⟨g0, g1, g2, g3, g4, g5, g6, g7⟩ := HLT
      obtain ⟨wp, ewp⟩ : ∃ wp, wo.alloc (.cells #[.int .u64 x0, .int .u64 x1, .int .u64 x2, .int .u64 x3, .int .u64 x4, .int .u64 x5, .slice ya yn yc, .slice za zn zc] 39) = wp := ⟨_, rfl⟩
      obtain ⟨pb, epb⟩ : ∃ pb, wo.heap.size = pb := ⟨_, rfl⟩
      have hSp : Same wo wp := by rw [← ewp]; exact (Same.refl wo).alloc _
      have hpb : wp.heap[pb]? = some (.cells #[.int .u64 x0, .int .u64 x1, .int .u64 x2, .int .u64 x3, .int .u64 x4, .int .u64 x5, .slice ya yn yc, .slice za zn zc] 39 (0, 0)) := by rw [← ewp, ← epb]; exact heap_new _ _
      obtain ⟨wq, ewq⟩ : ∃ wq, wp.alloc (.cells #[.slice ya yn yc, .slice za zn zc] 24) = wq := ⟨_, rfl⟩
      obtain ⟨qb, eqb⟩ : ∃ qb, wp.heap.size = qb := ⟨_, rfl⟩
      have hSq : Same wp wq := by rw [← ewq]; exact (Same.refl wp).alloc _
      have HSLq := Lib.hid (show SlcAt wq qb [yn, zn] from slc_at [ya, za] [yn, zn] [yc, zc] (by rw [← ewq, ← eqb]; exact heap_new wp _))
      have HSq := Lib.hid (hH.out.trans (hSp.trans hSq))
      have k6 : wp.cell? ⟨pb, 6, none⟩ = some (.slice ya yn yc) := by rw [cell_at hpb]; rfl
      have k7 : wp.cell? ⟨pb, 7, none⟩ = some (.slice za zn zc) := by rw [cell_at hpb]; rfl
      have EWP := Lib.hid ewp
      have EPB := Lib.hid epb
      have EWQ := Lib.hid ewq
      have EQB := Lib.hid eqb
      clear hu hc e2 q1 q2 ewp epb ewq eqb hSp hSq hpb
      go_upto_region 8 with fail
      rw [EWP.out, EPB.out]
      clear g0 g1 g2 g3 g4 g5 g6 g7
      go_wp2_with fail
      rw [EWQ.out, EQB.out]
      refine (few_any qb [yn, zn] 2 2 rfl (by omega) wq HSLq.out).mono ?_
      rintro e wq' ⟨rfl, rfl⟩
      obtain ⟨gb, egb⟩ : ∃ gb, fewB [yn, zn] = gb := ⟨_, rfl⟩
      rw [egb]
      clear k6 k7
      cases gb
      · go_wp2_with fail
        go_ret
        exact ⟨rfl, HS2.out.trans HSq.out⟩
      · go_wp2_with fail
        go_roundw
        case rel => exact ⟨i + 1, by go_num, by omega, HSq⟩
        case measure => simp [intOf]; omega
    · obtain rfl : n0 = i := by omega
      obtain ⟨g0, g1, g2, g3, g4, g5, g6⟩ := mix_cells HBo.out
      go_wp2_with fail
      refine (wMixing_any a0 n0 c0 a1 n1 c1 a2 n2 c2 a3 n3 c3 a4 n4 c4 a5 n5 c5 a6 n6 c6 x wo (HI.out.same HSo.out)).mono ?_
      rintro e w3 ⟨hs3, hW⟩
      have HS3 := Lib.hid (HSo.out.trans hs3)
      have HB3 := Lib.hid (hs3.keep HBo.out)
      clear hs3 g0 g1 g2 g3 g4 g5 g6
      obtain ⟨g0, g1, g2, g3, g4, g5, g6⟩ := mix_cells HB3.out
      by_cases hok : mixC.ok x
      · obtain ⟨_, rfl⟩ := hW.resolve_right (fun h => h.1 hok)
        obtain ⟨L, eL⟩ : ∃ L, (2 : UInt8) :: mixC.enc x = L := ⟨_, rfl⟩
        have HRD := Lib.hid (show rd 2 mixC L = some x by rw [← eL]; exact rd_wr hok)
        have hll : L.length ≤ 1000000000 := by rw [← eL, List.length_cons]; have := mix_len hok; omega
        obtain ⟨t, et⟩ : ∃ t, ofL L = t := ⟨_, rfl⟩
        have HEL := Lib.hid eL
        have HET := Lib.hid et
        rw [eL, et]
        have hne : (t.toList != t.toList) = false := by simp
        clear eL et hW
        go_wp2_with fail
        refine (rMixing_any a0 n0 c0 a1 n1 c1 a2 n2 c2 a3 n3 c3 a4 n4 c4 a5 n5 c5 a6 n6 c6 x w3 (HI.out.same HS3.out)).mono ?_
        rintro e w4 ⟨hs4, hW⟩
        obtain ⟨_, rfl⟩ := hW.resolve_right (fun h => h.1 hok)
        rw [HEL.out, HET.out]
        have HS4 := Lib.hid (HS3.out.trans hs4)
        have HB4 := Lib.hid (hs4.keep HB3.out)
        clear hs4 hW g0 g1 g2 g3 g4 g5 g6
        go_wp2_with fail
        rw [← HET.out]
        refine (readMixing_any L hll w4).mono ?_
        rintro e w5 ⟨hs5, (⟨y, b0, m0, d0, b1, m1, d1, b2, m2, d2, b3, m3, d3, b4, m4, d4, b5, m5, d5, b6, m6, d6, hr, rfl, ho⟩ | ⟨hr, rfl⟩)⟩
        case inr => rw [HRD.out] at hr; cases hr
        rw [HRD.out] at hr
        injection hr with hr
        subst hr
        have HS5 := Lib.hid (HS4.out.trans hs5)
        have HB5 := Lib.hid (hs5.keep HB4.out)
        have hy5 := ho.into hok
        obtain ⟨yb, eyb⟩ : ∃ yb, w5.heap.size = yb := ⟨_, rfl⟩
        obtain ⟨w6, ew6⟩ : ∃ w6, w5.alloc (.cells #[.slice b0 m0 d0, .slice b1 m1 d1, .slice b2 m2 d2, .slice b3 m3 d3, .slice b4 m4 d4, .slice b5 m5 d5, .slice b6 m6 d6] 30) = w6 := ⟨_, rfl⟩
        have hs6 : Same w5 w6 := by rw [← ew6]; exact (Same.refl w5).alloc _
        have HY6 := Lib.hid (show w6.heap[yb]? = some (.cells #[.slice b0 m0 d0, .slice b1 m1 d1, .slice b2 m2 d2, .slice b3 m3 d3, .slice b4 m4 d4, .slice b5 m5 d5, .slice b6 m6 d6] 30 (0, 0)) by rw [← ew6, ← eyb]; exact heap_new _ _)
        have HB6 := Lib.hid (hs6.keep HB5.out)
        have HS6 := Lib.hid (HS5.out.trans hs6)
        have HYI := Lib.hid (hy5.same hs6)
        have EW6 := Lib.hid ew6
        have EYB := Lib.hid eyb
        obtain ⟨g0, g1, g2, g3, g4, g5, g6⟩ := mix_cells HB6.out
        obtain ⟨r0, r1, r2, r3, r4, r5, r6⟩ := mix_cells HY6.out
        rw [HET.out]
        clear hs5 hs6 hy5 ho ew6 eyb
        go_upto_region 16 with fail
        rw [EW6.out, EYB.out]
        go_wp2_with fail
        refine (rsamemix_yes a0 n0 c0 a1 n1 c1 a2 n2 c2 a3 n3 c3 a4 n4 c4 a5 n5 c5 a6 n6 c6 b0 m0 d0 b1 m1 d1 b2 m2 d2 b3 m3 d3 b4 m4 d4 b5 m5 d5 b6 m6 d6 x w6 (HI.out.same HS6.out) HYI.out).mono ?_
        rintro e w7 ⟨rfl, hs7⟩
        have HS7 := Lib.hid (HS6.out.trans hs7)
        clear hs7 g0 g1 g2 g3 g4 g5 g6 r0 r1 r2 r3 r4 r5 r6
        go_wp2_with fail
        go_ret
        exact ⟨rfl, HS7.out⟩
      · obtain ⟨_, rfl⟩ := hW.resolve_left (fun h => hok h.1)
        clear hW
        go_wp2_with fail
        refine (rMixing_any a0 n0 c0 a1 n1 c1 a2 n2 c2 a3 n3 c3 a4 n4 c4 a5 n5 c5 a6 n6 c6 x w3 (HI.out.same HS3.out)).mono ?_
        rintro e w4 ⟨hs4, hW⟩
        obtain ⟨_, rfl⟩ := hW.resolve_left (fun h => hok h.1)
        have HS4 := Lib.hid (HS3.out.trans hs4)
        clear hs4 hW g0 g1 g2 g3 g4 g5 g6
        go_wp2_with fail
        refine (readMixing_any [] (by simp) w4).mono ?_
        rintro e w5 ⟨hs5, (⟨y, b0, m0, d0, b1, m1, d1, b2, m2, d2, b3, m3, d3, b4, m4, d4, b5, m5, d5, b6, m6, d6, hr, rfl, ho⟩ | ⟨hr, rfl⟩)⟩
        · cases hr
        have HS5 := Lib.hid (HS4.out.trans hs5)
        clear hs5
        go_wp2_with fail
        go_ret
        exact ⟨rfl, HS5.out.trans ((Same.refl _).alloc _)⟩
end Go.Proofs.Ytdbhcdhenapfoaa
