/- Layer 10: WirePassed. -/
import Derived.Test.YtdbhcdhenapfoaaOwnP
import Derived.Test.YtdbhcdhenapfoaaLaw10M
set_option linter.unusedVariables false
set_option linter.unusedSimpArgs false
namespace Go.Proofs.Ytdbhcdhenapfoaa
open Go.RowKit Go.Maps
theorem passl_len {x : List PassD} (h : passlC.ok x) : (passlC.enc x).length ≤ 30000 := by
  have h1 := listC_len (A := passC) (m := 8) h (fun x hx => pass_len hx)
  show ((listC 8 passC).enc x).length ≤ _
  omega
set_option maxRecDepth 20000 in
set_option maxHeartbeats 6400000 in
theorem lawPassed (a : Option Addr) (n c : Nat) (ls : List PassD) (w : World) (hx : PassAt w a n ls) :
    Calls Try.prog 6 #[.slice a n c] w fun e w' => e = .returned (.bool true) ∧ Same w w' := by
  have HI := Lib.hid hx
  clear hx
  go_enter Try.func6, Try.ntmps6
  go_wp2_with fail
  refine (awake_any w).mono ?_
  rintro e w1 ⟨rfl, hs1⟩
  have HS1 := Lib.hid hs1
  clear hs1
  by_cases hb : n ≤ 20
  case neg =>
    have d0 : decide ((n : Int) > 20) = true := decide_eq_true (by omega)
    go_wp2_with fail
    go_ret
    exact ⟨rfl, HS1.out⟩
  have d0 : decide ((n : Int) > 20) = false := decide_eq_false (by omega)
  have hn0 : (0 : Int) ≤ n := by omega
  go_wp2_with fail
  clear d0
  go_loopw [20] (fun s20 wr => ∃ i : Nat, s20 = .int .i64 i ∧ i ≤ n ∧ Hid (Same w1 wr)) (fun s20 _ => n - (intOf s20).toNat)
  case atStart => exact ⟨0, rfl, by omega, Lib.hid (Same.refl _)⟩
  case round =>
    obtain ⟨i, rfl, hi', hH⟩ := hrel
    obtain ⟨wo, rfl⟩ : ∃ wz, wz = wr := ⟨_, rfl⟩
    have HSo := Lib.hid (HS1.out.trans hH.out)
    by_cases hlt : i < n
    · have hi0 : (0 : Int) ≤ i := by omega
      have hi1 : (i : Int) < n := by omega
      obtain ⟨bk, off, x0, x1, x2, x3, x4, x5, x6, x7, x8, p0, m0, d0, p1, m1, d1, p2, m2, d2, p3, m3, d3, p4, m4, d4, p5, m5, d5, q0, q1, q2, rfl, e2, hu, hc, i0, i1, i2, i3, i4, i5⟩ := (HI.out.same HSo.out).it i hlt
      have g0 : wo.cell? ⟨bk, off + i * 15, none⟩ = some (.int .u64 x0) := hc 0 (by omega)
      have g1 : wo.cell? ⟨bk, off + i * 15 + 1, none⟩ = some (.int .u64 x1) := hc 1 (by omega)
      have g2 : wo.cell? ⟨bk, off + i * 15 + 2, none⟩ = some (.int .u64 x2) := hc 2 (by omega)
      have g3 : wo.cell? ⟨bk, off + i * 15 + 3, none⟩ = some (.int .u64 x3) := hc 3 (by omega)
      have g4 : wo.cell? ⟨bk, off + i * 15 + 4, none⟩ = some (.int .u64 x4) := hc 4 (by omega)
      have g5 : wo.cell? ⟨bk, off + i * 15 + 5, none⟩ = some (.int .u64 x5) := hc 5 (by omega)
      have g6 : wo.cell? ⟨bk, off + i * 15 + 6, none⟩ = some (.int .u64 x6) := hc 6 (by omega)
      have g7 : wo.cell? ⟨bk, off + i * 15 + 7, none⟩ = some (.int .u64 x7) := hc 7 (by omega)
      have g8 : wo.cell? ⟨bk, off + i * 15 + 8, none⟩ = some (.int .u64 x8) := hc 8 (by omega)
      have g9 : wo.cell? ⟨bk, off + i * 15 + 9, none⟩ = some (.slice p0 m0 d0) := hc 9 (by omega)
      have g10 : wo.cell? ⟨bk, off + i * 15 + 10, none⟩ = some (.slice p1 m1 d1) := hc 10 (by omega)
      have g11 : wo.cell? ⟨bk, off + i * 15 + 11, none⟩ = some (.slice p2 m2 d2) := hc 11 (by omega)
      have g12 : wo.cell? ⟨bk, off + i * 15 + 12, none⟩ = some (.slice p3 m3 d3) := hc 12 (by omega)
      have g13 : wo.cell? ⟨bk, off + i * 15 + 13, none⟩ = some (.slice p4 m4 d4) := hc 13 (by omega)
      have g14 : wo.cell? ⟨bk, off + i * 15 + 14, none⟩ = some (.slice p5 m5 d5) := hc 14 (by omega)
      obtain ⟨wp, ewp⟩ : ∃ wp, wo.alloc (.cells #[.int .u64 x0, .int .u64 x1, .int .u64 x2, .int .u64 x3, .int .u64 x4, .int .u64 x5, .int .u64 x6, .int .u64 x7, .int .u64 x8, .slice p0 m0 d0, .slice p1 m1 d1, .slice p2 m2 d2, .slice p3 m3 d3, .slice p4 m4 d4, .slice p5 m5 d5] 62) = wp := ⟨_, rfl⟩
      obtain ⟨pb, epb⟩ : ∃ pb, wo.heap.size = pb := ⟨_, rfl⟩
      have hSp : Same wo wp := by rw [← ewp]; exact (Same.refl wo).alloc _
      have hpb : wp.heap[pb]? = some (.cells #[.int .u64 x0, .int .u64 x1, .int .u64 x2, .int .u64 x3, .int .u64 x4, .int .u64 x5, .int .u64 x6, .int .u64 x7, .int .u64 x8, .slice p0 m0 d0, .slice p1 m1 d1, .slice p2 m2 d2, .slice p3 m3 d3, .slice p4 m4 d4, .slice p5 m5 d5] 62 (0, 0)) := by rw [← ewp, ← epb]; exact heap_new _ _
      have k0 : wp.cell? ⟨pb, 9, none⟩ = some (.slice p0 m0 d0) := by rw [cell_at hpb]; rfl
      have k1 : wp.cell? ⟨pb, 10, none⟩ = some (.slice p1 m1 d1) := by rw [cell_at hpb]; rfl
      have k2 : wp.cell? ⟨pb, 11, none⟩ = some (.slice p2 m2 d2) := by rw [cell_at hpb]; rfl
      have k3 : wp.cell? ⟨pb, 12, none⟩ = some (.slice p3 m3 d3) := by rw [cell_at hpb]; rfl
      have k4 : wp.cell? ⟨pb, 13, none⟩ = some (.slice p4 m4 d4) := by rw [cell_at hpb]; rfl
      have k5 : wp.cell? ⟨pb, 14, none⟩ = some (.slice p5 m5 d5) := by rw [cell_at hpb]; rfl
      have HSp := Lib.hid (hH.out.trans hSp)
      have EWP := Lib.hid ewp
      have EPB := Lib.hid epb
      clear hu hc e2 i0 i1 i2 i3 i4 i5 ewp epb hSp hpb
      go_upto_region 8 with fail
      rw [EWP.out, EPB.out]
      clear g0 g1 g2 g3 g4 g5 g6 g7 g8 g9 g10 g11 g12 g13 g14
      go_wp2_with fail
      go_loopw [26] (fun s26 wr => ∃ j : Nat, s26 = .int .i64 j ∧ j ≤ 3 ∧ Hid (Same w1 wr)) (fun s26 _ => 3 - (intOf s26).toNat)
      case atStart => exact ⟨0, rfl, by omega, HSp⟩
      case round =>
        clear k0 k1 k2 k3 k4 k5
        obtain ⟨j, rfl, hj', hT⟩ := hrel
        obtain ⟨wr, rfl⟩ : ∃ wz, wz = wr := ⟨_, rfl⟩
        have hcase : j = 0 ∨ j = 1 ∨ j = 2 ∨ j = 3 := by omega
        clear hj'
        rcases hcase with rfl | rfl | rfl | rfl
        · rw [show ((0 : Nat) : Int) = 0 from rfl]
          obtain ⟨wt, ewt⟩ : ∃ wt, wr.alloc (.cells #[.slice p0 m0 d0, .slice p1 m1 d1] 26) = wt := ⟨_, rfl⟩
          obtain ⟨tb, etb⟩ : ∃ tb, wr.heap.size = tb := ⟨_, rfl⟩
          have hSt : Same wr wt := by rw [← ewt]; exact (Same.refl wr).alloc _
          have htb : wt.heap[tb]? = some (.cells #[.slice p0 m0 d0, .slice p1 m1 d1] 26 (0, 0)) := by rw [← ewt, ← etb]; exact heap_new _ _
          have k0 : wt.cell? ⟨tb, 0, none⟩ = some (.slice p0 m0 d0) := by rw [cell_at htb]; rfl
          have k1 : wt.cell? ⟨tb, 1, none⟩ = some (.slice p1 m1 d1) := by rw [cell_at htb]; rfl
          obtain ⟨wq, ewq⟩ : ∃ wq, wt.alloc (.cells #[.slice p0 m0 d0, .slice p1 m1 d1] 24) = wq := ⟨_, rfl⟩
          obtain ⟨qb, eqb⟩ : ∃ qb, wt.heap.size = qb := ⟨_, rfl⟩
          have hSq : Same wt wq := by rw [← ewq]; exact (Same.refl wt).alloc _
          have HSLq := Lib.hid (show SlcAt wq qb [m0, m1] from slc_at [p0, p1] [m0, m1] [d0, d1] (by rw [← ewq, ← eqb]; exact heap_new wt _))
          have HSq := Lib.hid (hT.out.trans (hSt.trans hSq))
          have EWT := Lib.hid ewt
          have ETB := Lib.hid etb
          have EWQ := Lib.hid ewq
          have EQB := Lib.hid eqb
          clear ewt etb ewq eqb hSt hSq htb hT
          have hix : ∀ w : World, (Instr.index 60 (.agg #[.slice p0 m0 d0, .slice p1 m1 d1, .slice p2 m2 d2, .slice p3 m3 d3, .slice p4 m4 d4, .slice p5 m5 d5]) (.int .i64 0)).run Try.prog w = .ok (.agg #[.slice p0 m0 d0, .slice p1 m1 d1]) w := fun _ => rfl
          go_upto_region 11 with fail
          rw [EWT.out, ETB.out]
          go_wp2_with fail
          rw [EWQ.out, EQB.out]
          refine (few_any qb [m0, m1] 2 2 rfl (by omega) wq HSLq.out).mono ?_
          rintro e wq' ⟨rfl, rfl⟩
          obtain ⟨gb, egb⟩ : ∃ gb, fewB [m0, m1] = gb := ⟨_, rfl⟩
          rw [egb]
          clear k0 k1
          cases gb
          · go_wp2_with fail
            go_ret
            exact ⟨rfl, HS1.out.trans HSq.out⟩
          · go_wp2_with fail
            go_roundw
            case rel => exact ⟨0 + 1, by go_num, by omega, HSq⟩
            case measure => simp [intOf]
        · rw [show ((1 : Nat) : Int) = 1 from rfl]
          obtain ⟨wt, ewt⟩ : ∃ wt, wr.alloc (.cells #[.slice p2 m2 d2, .slice p3 m3 d3] 26) = wt := ⟨_, rfl⟩
          obtain ⟨tb, etb⟩ : ∃ tb, wr.heap.size = tb := ⟨_, rfl⟩
          have hSt : Same wr wt := by rw [← ewt]; exact (Same.refl wr).alloc _
          have htb : wt.heap[tb]? = some (.cells #[.slice p2 m2 d2, .slice p3 m3 d3] 26 (0, 0)) := by rw [← ewt, ← etb]; exact heap_new _ _
          have k0 : wt.cell? ⟨tb, 0, none⟩ = some (.slice p2 m2 d2) := by rw [cell_at htb]; rfl
          have k1 : wt.cell? ⟨tb, 1, none⟩ = some (.slice p3 m3 d3) := by rw [cell_at htb]; rfl
          obtain ⟨wq, ewq⟩ : ∃ wq, wt.alloc (.cells #[.slice p2 m2 d2, .slice p3 m3 d3] 24) = wq := ⟨_, rfl⟩
          obtain ⟨qb, eqb⟩ : ∃ qb, wt.heap.size = qb := ⟨_, rfl⟩
          have hSq : Same wt wq := by rw [← ewq]; exact (Same.refl wt).alloc _
          have HSLq := Lib.hid (show SlcAt wq qb [m2, m3] from slc_at [p2, p3] [m2, m3] [d2, d3] (by rw [← ewq, ← eqb]; exact heap_new wt _))
          have HSq := Lib.hid (hT.out.trans (hSt.trans hSq))
          have EWT := Lib.hid ewt
          have ETB := Lib.hid etb
          have EWQ := Lib.hid ewq
          have EQB := Lib.hid eqb
          clear ewt etb ewq eqb hSt hSq htb hT
          have hix : ∀ w : World, (Instr.index 60 (.agg #[.slice p0 m0 d0, .slice p1 m1 d1, .slice p2 m2 d2, .slice p3 m3 d3, .slice p4 m4 d4, .slice p5 m5 d5]) (.int .i64 1)).run Try.prog w = .ok (.agg #[.slice p2 m2 d2, .slice p3 m3 d3]) w := fun _ => rfl
          go_upto_region 11 with fail
          rw [EWT.out, ETB.out]
          go_wp2_with fail
          rw [EWQ.out, EQB.out]
          refine (few_any qb [m2, m3] 2 2 rfl (by omega) wq HSLq.out).mono ?_
          rintro e wq' ⟨rfl, rfl⟩
          obtain ⟨gb, egb⟩ : ∃ gb, fewB [m2, m3] = gb := ⟨_, rfl⟩
          rw [egb]
          clear k0 k1
          cases gb
          · go_wp2_with fail
            go_ret
            exact ⟨rfl, HS1.out.trans HSq.out⟩
          · go_wp2_with fail
            go_roundw
            case rel => exact ⟨1 + 1, by go_num, by omega, HSq⟩
            case measure => simp [intOf]
        · rw [show ((2 : Nat) : Int) = 2 from rfl]
          obtain ⟨wt, ewt⟩ : ∃ wt, wr.alloc (.cells #[.slice p4 m4 d4, .slice p5 m5 d5] 26) = wt := ⟨_, rfl⟩
          obtain ⟨tb, etb⟩ : ∃ tb, wr.heap.size = tb := ⟨_, rfl⟩
          have hSt : Same wr wt := by rw [← ewt]; exact (Same.refl wr).alloc _
          have htb : wt.heap[tb]? = some (.cells #[.slice p4 m4 d4, .slice p5 m5 d5] 26 (0, 0)) := by rw [← ewt, ← etb]; exact heap_new _ _
          have k0 : wt.cell? ⟨tb, 0, none⟩ = some (.slice p4 m4 d4) := by rw [cell_at htb]; rfl
          have k1 : wt.cell? ⟨tb, 1, none⟩ = some (.slice p5 m5 d5) := by rw [cell_at htb]; rfl
          obtain ⟨wq, ewq⟩ : ∃ wq, wt.alloc (.cells #[.slice p4 m4 d4, .slice p5 m5 d5] 24) = wq := ⟨_, rfl⟩
          obtain ⟨qb, eqb⟩ : ∃ qb, wt.heap.size = qb := ⟨_, rfl⟩
          have hSq : Same wt wq := by rw [← ewq]; exact (Same.refl wt).alloc _
          have HSLq := Lib.hid (show SlcAt wq qb [m4, m5] from slc_at [p4, p5] [m4, m5] [d4, d5] (by rw [← ewq, ← eqb]; exact heap_new wt _))
          have HSq := Lib.hid (hT.out.trans (hSt.trans hSq))
          have EWT := Lib.hid ewt
          have ETB := Lib.hid etb
          have EWQ := Lib.hid ewq
          have EQB := Lib.hid eqb
          clear ewt etb ewq eqb hSt hSq htb hT
          have hix : ∀ w : World, (Instr.index 60 (.agg #[.slice p0 m0 d0, .slice p1 m1 d1, .slice p2 m2 d2, .slice p3 m3 d3, .slice p4 m4 d4, .slice p5 m5 d5]) (.int .i64 2)).run Try.prog w = .ok (.agg #[.slice p4 m4 d4, .slice p5 m5 d5]) w := fun _ => rfl
          go_upto_region 11 with fail
          rw [EWT.out, ETB.out]
          go_wp2_with fail
          rw [EWQ.out, EQB.out]
          refine (few_any qb [m4, m5] 2 2 rfl (by omega) wq HSLq.out).mono ?_
          rintro e wq' ⟨rfl, rfl⟩
          obtain ⟨gb, egb⟩ : ∃ gb, fewB [m4, m5] = gb := ⟨_, rfl⟩
          rw [egb]
          clear k0 k1
          cases gb
          · go_wp2_with fail
            go_ret
            exact ⟨rfl, HS1.out.trans HSq.out⟩
          · go_wp2_with fail
            go_roundw
            case rel => exact ⟨2 + 1, by go_num, by omega, HSq⟩
            case measure => simp [intOf]
        · rw [show ((3 : Nat) : Int) = 3 from rfl]
          go_wp2_with fail
          go_roundw
          case rel => exact ⟨i + 1, by go_num, by omega, hT⟩
          case measure => simp [intOf]; omega
    · obtain rfl : n = i := by omega
      go_wp2_with fail
      refine (wPassed_any a n c ls wo (HI.out.same HSo.out)).mono ?_
      rintro e w3 ⟨hs3, hW⟩
      have HS3 := Lib.hid (HSo.out.trans hs3)
      clear hs3
      by_cases hok : passlC.ok ls
      · obtain ⟨_, rfl⟩ := hW.resolve_right (fun h => h.1 hok)
        obtain ⟨L, eL⟩ : ∃ L, (3 : UInt8) :: passlC.enc ls = L := ⟨_, rfl⟩
        have HRD := Lib.hid (show rd 3 passlC L = some ls by rw [← eL]; exact rd_wr hok)
        have hll : L.length ≤ 1000000000 := by rw [← eL, List.length_cons]; have := passl_len hok; omega
        obtain ⟨t, et⟩ : ∃ t, ofL L = t := ⟨_, rfl⟩
        have HEL := Lib.hid eL
        have HET := Lib.hid et
        rw [eL, et]
        have hne : (t.toList != t.toList) = false := by simp
        clear eL et hW
        go_wp2_with fail
        refine (rPassed_any a n c ls w3 (HI.out.same HS3.out)).mono ?_
        rintro e w4 ⟨hs4, hW⟩
        obtain ⟨_, rfl⟩ := hW.resolve_right (fun h => h.1 hok)
        rw [HEL.out, HET.out]
        have HS4 := Lib.hid (HS3.out.trans hs4)
        clear hs4 hW
        go_wp2_with fail
        rw [← HET.out]
        refine (readPassed_any L hll w4).mono ?_
        rintro e w5 ⟨hs5, (⟨y, ya, yn, yc, hr, rfl, ho⟩ | ⟨hr, rfl⟩)⟩
        case inr => rw [HRD.out] at hr; cases hr
        rw [HRD.out] at hr
        injection hr with hr
        subst hr
        have HS5 := Lib.hid (HS4.out.trans hs5)
        have HYI := Lib.hid (ho.into (fun l hl => (hok.2 l hl).1.2))
        rw [HET.out]
        clear hs5 ho
        go_wp2_with fail
        refine (rsameg_yes a ya n yn c yc ls w5 (HI.out.same HS5.out) HYI.out).mono ?_
        rintro e w7 ⟨rfl, hs7⟩
        have HS7 := Lib.hid (HS5.out.trans hs7)
        clear hs7
        go_wp2_with fail
        go_ret
        exact ⟨rfl, HS7.out⟩
      · obtain ⟨_, rfl⟩ := hW.resolve_left (fun h => hok h.1)
        clear hW
        go_wp2_with fail
        refine (rPassed_any a n c ls w3 (HI.out.same HS3.out)).mono ?_
        rintro e w4 ⟨hs4, hW⟩
        obtain ⟨_, rfl⟩ := hW.resolve_left (fun h => hok h.1)
        have HS4 := Lib.hid (HS3.out.trans hs4)
        clear hs4 hW
        go_wp2_with fail
        refine (readPassed_any [] (by simp) w4).mono ?_
        rintro e w5 ⟨hs5, (⟨y, ya, yn, yc, hr, rfl, ho⟩ | ⟨hr, rfl⟩)⟩
        · cases hr
        have HS5 := Lib.hid (HS4.out.trans hs5)
        clear hs5
        go_wp2_with fail
        go_ret
        exact ⟨rfl, HS5.out⟩
end Go.Proofs.Ytdbhcdhenapfoaa
