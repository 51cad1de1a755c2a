/- Layer 10: what is passed is written. -/
import Derived.Test.YtdbhcdhenapfoaaWireZ
import Derived.Test.YtdbhcdhenapfoaaWireU
set_option linter.unusedVariables false
set_option linter.unusedSimpArgs false
namespace Go.Proofs.Ytdbhcdhenapfoaa
open Go.RowKit Go.Maps
/-- what is passed, as it stands in memory -/
structure PassAt (w : World) (a : Option Addr) (n : Nat) (ls : List PassD) : Prop where
  len : ls.length = n
  small : n ≤ 9223372036854775807
  it : ∀ j, j < n → ∃ b off x0 x1 x2 x3 x4 x5 x6 x7 x8 p0 m0 d0 p1 m1 d1 p2 m2 d2 p3 m3 d3 p4 m4 d4 p5 m5 d5 q0 q1 q2, a = some ⟨b, off, none⟩ ∧ ls.getD j ([], []) = ([x0, x1, x2, x3, x4, x5, x6, x7, x8], [q0, q1, q2]) ∧ (∀ x ∈ [x0, x1, x2, x3, x4, x5, x6, x7, x8], U64 x) ∧
    (∀ i, i < 15 → w.cell? ⟨b, off + j * 15 + i, none⟩ = [Value.int .u64 x0, .int .u64 x1, .int .u64 x2, .int .u64 x3, .int .u64 x4, .int .u64 x5, .int .u64 x6, .int .u64 x7, .int .u64 x8, .slice p0 m0 d0, .slice p1 m1 d1, .slice p2 m2 d2, .slice p3 m3 d3, .slice p4 m4 d4, .slice p5 m5 d5][i]?) ∧ IntsAt w p0 m0 q0.1 ∧ IntsAt w p1 m1 q0.2 ∧ IntsAt w p2 m2 q1.1 ∧ IntsAt w p3 m3 q1.2 ∧ IntsAt w p4 m4 q2.1 ∧ IntsAt w p5 m5 q2.2
theorem PassAt.same {w w' : World} {a : Option Addr} {n : Nat} {ls : List PassD} (h : PassAt w a n ls) (hs : Same w w') : PassAt w' a n ls := by
  refine ⟨h.len, h.small, fun j hj => ?_⟩
  obtain ⟨b, off, x0, x1, x2, x3, x4, x5, x6, x7, x8, p0, m0, d0, p1, m1, d1, p2, m2, d2, p3, m3, d3, p4, m4, d4, p5, m5, d5, q0, q1, q2, e1, e2, e3, e4, i0, i1, i2, i3, i4, i5⟩ := h.it j hj
  exact ⟨b, off, x0, x1, x2, x3, x4, x5, x6, x7, x8, p0, m0, d0, p1, m1, d1, p2, m2, d2, p3, m3, d3, p4, m4, d4, p5, m5, d5, q0, q1, q2, e1, e2, e3, fun i hi => cell_some hs (by rw [List.getElem?_eq_getElem (by simpa using hi)]; rfl) (e4 i hi), i0.same hs, i1.same hs, i2.same hs, i3.same hs, i4.same hs, i5.same hs⟩
theorem pass_len {x : PassD} (h : passC.ok x) : (passC.enc x).length ≤ 3156 := by
  show (x.1.flatMap encN ++ x.2.flatMap proofC.enc).length ≤ _
  have h1 := flat_le (f := proofC.enc) (K := 1028) x.2 (fun q hq => proof_len (h.2.2 q hq))
  have h2 : x.1.length = 9 := h.1.1
  have h3 : x.2.length = 3 := h.2.1
  rw [List.length_append, flat_len]; omega
set_option maxRecDepth 20000 in
set_option maxHeartbeats 6400000 in
theorem putPassed (xb lo : Nat) (a : Option Addr) (n c : Nat) (ls : List PassD) (W : World) (hx : PassAt W a n ls) (hlo : W.heap.size = lo) :
    Puts 50 xb lo (passlC.ok ls) (passlC.enc ls) (fun u => Below lo W u ∧ PxAt u xb (.slice a n c)) where
  enter := fun args w => by kernel_rfl
  stay := fun w w' h k => ⟨h.1.trans (Below.mono k (by have := h.1.size; omega)), k.keep h.2⟩
  run := fun wb l w hl hne hW hR => by
    subst hlo
    have HB := Lib.hid hR.1
    have HX := Lib.hid hR.2
    have HW := Lib.hid hW
    have HI := Lib.hid hx
    have HN := Lib.hid hne
    have HNL := Lib.hid (show ls.length = n from hx.len)
    have KEEP := Lib.hid (show ∀ (w' : World) (a : Option Addr) (n : Nat) (xs : List Int), Wrote W.heap.size wb w w' → IntsAt W a n xs → IntsAt w' a n xs from fun _ _ _ _ h k => k.same (hR.1.trans (h.below hW.size)))
    obtain ⟨va, vn, vc, hb, ho⟩ := hW.ex
    have HWB := Lib.hid (show wb < w.heap.size from (Array.getElem?_eq_some_iff.1 hb).1)
    have g0 : w.cell? ⟨xb, 0, none⟩ = some (.slice a n c) := by rw [cell_at HX.out]; rfl
    clear hR hW hx hne hb ho
    go_enter Try.func50, Try.ntmps50
    go_wp2_with fail
    refine (wcount_any W.heap.size wb l n 8 (by omega) (by omega) w HW.out).mono ?_
    rintro e w2 (⟨hn, rfl, hO, hV⟩ | ⟨hn, rfl, rfl⟩)
    case inr =>
      go_wp2_with fail
      exact ⟨rfl, Wrote.refl _ _ _, Or.inr ⟨fun h => by have h1 := h.1.1; have h2 := HNL.out; omega, rfl⟩⟩
    have g2 : w2.cell? ⟨xb, 0, none⟩ = some (.slice a n c) := by rw [cell_at (hO.keep HX.out (fun e => HN.out e.symm) (by decide))]; rfl
    have HO := Lib.hid hO
    have HV := Lib.hid hV
    have hn0 : (0 : Int) ≤ n := by omega
    clear hO hV g0
    go_wp2_with fail
    clear g2
    go_loopw [15] (fun s15 wr => ∃ i : Nat, s15 = .int .i64 i ∧ i ≤ n ∧ Hid (WrAt wr wb W.heap.size (l ++ encC n ++ (ls.take i).flatMap passC.enc) ∧ Wrote W.heap.size wb w wr ∧ ∀ x ∈ ls.take i, passC.ok x)) (fun s15 _ => n - (intOf s15).toNat)
    case atStart => exact ⟨0, rfl, by omega, Lib.hid ⟨by simpa using HV.out, HO.out, by simp⟩⟩
    case round =>
      obtain ⟨i, rfl, hi', hH⟩ := hrel
      obtain ⟨wo, rfl⟩ : ∃ wz, wz = wr := ⟨_, rfl⟩
      by_cases hlt : i < n
      · have hi0 : (0 : Int) ≤ i := by omega
        have hi1 : (i : Int) < n := by omega
        have HBo := Lib.hid (HB.out.trans (hH.out.2.1.below HW.out.size))
        obtain ⟨bk, off, x0, x1, x2, x3, x4, x5, x6, x7, x8, p0, m0, d0, p1, m1, d1, p2, m2, d2, p3, m3, d3, p4, m4, d4, p5, m5, d5, q0, q1, q2, rfl, e2, hu, hc, i0, i1, i2, i3, i4, i5⟩ := HI.out.it i hlt
        have g0 : wo.cell? ⟨bk, off + i * 15, none⟩ = some (.int .u64 x0) := same_cell HBo.out (hc 0 (by omega))
        have g1 : wo.cell? ⟨bk, off + i * 15 + 1, none⟩ = some (.int .u64 x1) := same_cell HBo.out (hc 1 (by omega))
        have g2 : wo.cell? ⟨bk, off + i * 15 + 2, none⟩ = some (.int .u64 x2) := same_cell HBo.out (hc 2 (by omega))
        have g3 : wo.cell? ⟨bk, off + i * 15 + 3, none⟩ = some (.int .u64 x3) := same_cell HBo.out (hc 3 (by omega))
        have g4 : wo.cell? ⟨bk, off + i * 15 + 4, none⟩ = some (.int .u64 x4) := same_cell HBo.out (hc 4 (by omega))
        have g5 : wo.cell? ⟨bk, off + i * 15 + 5, none⟩ = some (.int .u64 x5) := same_cell HBo.out (hc 5 (by omega))
        have g6 : wo.cell? ⟨bk, off + i * 15 + 6, none⟩ = some (.int .u64 x6) := same_cell HBo.out (hc 6 (by omega))
        have g7 : wo.cell? ⟨bk, off + i * 15 + 7, none⟩ = some (.int .u64 x7) := same_cell HBo.out (hc 7 (by omega))
        have g8 : wo.cell? ⟨bk, off + i * 15 + 8, none⟩ = some (.int .u64 x8) := same_cell HBo.out (hc 8 (by omega))
        have g9 : wo.cell? ⟨bk, off + i * 15 + 9, none⟩ = some (.slice p0 m0 d0) := same_cell HBo.out (hc 9 (by omega))
        have g10 : wo.cell? ⟨bk, off + i * 15 + 10, none⟩ = some (.slice p1 m1 d1) := same_cell HBo.out (hc 10 (by omega))
        have g11 : wo.cell? ⟨bk, off + i * 15 + 11, none⟩ = some (.slice p2 m2 d2) := same_cell HBo.out (hc 11 (by omega))
        have g12 : wo.cell? ⟨bk, off + i * 15 + 12, none⟩ = some (.slice p3 m3 d3) := same_cell HBo.out (hc 12 (by omega))
        have g13 : wo.cell? ⟨bk, off + i * 15 + 13, none⟩ = some (.slice p4 m4 d4) := same_cell HBo.out (hc 13 (by omega))
        have g14 : wo.cell? ⟨bk, off + i * 15 + 14, none⟩ = some (.slice p5 m5 d5) := same_cell HBo.out (hc 14 (by omega))
        have I0 := Lib.hid i0
        have I1 := Lib.hid i1
        have I2 := Lib.hid i2
        have I3 := Lib.hid i3
        have I4 := Lib.hid i4
        have I5 := Lib.hid i5
        have HU := Lib.hid hu
        have HMEM := Lib.hid (getD_mem (d := (([], []) : PassD)) (show i < ls.length by have := HNL.out; omega))
        have HTK := Lib.hid (take_flat passC.enc ls i ([], []) (show i < ls.length by have := HNL.out; omega))
        have HOKN := Lib.hid (fun k => take_ok (ok := passC.ok) (d := (([], []) : PassD)) (show i < ls.length by have := HNL.out; omega) hH.out.2.2 k)
        rw [e2] at HMEM HTK HOKN
        obtain ⟨l1, el1⟩ : ∃ l1, l ++ encC n ++ (ls.take i).flatMap passC.enc = l1 := ⟨_, rfl⟩
        have hl1 : l1.length ≤ 30000 := by
          have h1 := flat_le (f := passC.enc) (K := 3156) (ls.take i) (fun x hx => pass_len (hH.out.2.2 x hx))
          rw [List.length_take] at h1
          rw [← el1, List.length_append, List.length_append]
          have h2 : (encC n).length = 2 := rfl
          omega
        have HL1 := Lib.hid (show l ++ encC n ++ (ls.take (i + 1)).flatMap passC.enc = l1 ++ passC.enc ([x0, x1, x2, x3, x4, x5, x6, x7, x8], [q0, q1, q2]) by rw [HTK.out, ← List.append_assoc, el1])
        have hVo : WrAt wo wb W.heap.size l1 := by rw [← el1]; exact hH.out.1
        obtain ⟨wp, ewp⟩ : ∃ wp, wo.alloc (.cells #[.int .u64 x0, .int .u64 x1, .int .u64 x2, .int .u64 x3, .int .u64 x4, .int .u64 x5, .int .u64 x6, .int .u64 x7, .int .u64 x8, .slice p0 m0 d0, .slice p1 m1 d1, .slice p2 m2 d2, .slice p3 m3 d3, .slice p4 m4 d4, .slice p5 m5 d5] 62) = wp := ⟨_, rfl⟩
        obtain ⟨pb, epb⟩ : ∃ pb, wo.heap.size = pb := ⟨_, rfl⟩
        have hSp : Same wo wp := by rw [← ewp]; exact (Same.refl wo).alloc _
        have hpb : wp.heap[pb]? = some (.cells #[.int .u64 x0, .int .u64 x1, .int .u64 x2, .int .u64 x3, .int .u64 x4, .int .u64 x5, .int .u64 x6, .int .u64 x7, .int .u64 x8, .slice p0 m0 d0, .slice p1 m1 d1, .slice p2 m2 d2, .slice p3 m3 d3, .slice p4 m4 d4, .slice p5 m5 d5] 62 (0, 0)) := by rw [← ewp, ← epb]; exact heap_new _ _
        have k0 : wp.cell? ⟨pb, 0, none⟩ = some (.int .u64 x0) := by rw [cell_at hpb]; rfl
        have k1 : wp.cell? ⟨pb, 1, none⟩ = some (.int .u64 x1) := by rw [cell_at hpb]; rfl
        have k2 : wp.cell? ⟨pb, 2, none⟩ = some (.int .u64 x2) := by rw [cell_at hpb]; rfl
        have k3 : wp.cell? ⟨pb, 3, none⟩ = some (.int .u64 x3) := by rw [cell_at hpb]; rfl
        have k4 : wp.cell? ⟨pb, 4, none⟩ = some (.int .u64 x4) := by rw [cell_at hpb]; rfl
        have k5 : wp.cell? ⟨pb, 5, none⟩ = some (.int .u64 x5) := by rw [cell_at hpb]; rfl
        have k6 : wp.cell? ⟨pb, 6, none⟩ = some (.int .u64 x6) := by rw [cell_at hpb]; rfl
        have k7 : wp.cell? ⟨pb, 7, none⟩ = some (.int .u64 x7) := by rw [cell_at hpb]; rfl
        have k8 : wp.cell? ⟨pb, 8, none⟩ = some (.int .u64 x8) := by rw [cell_at hpb]; rfl
        have HPB := Lib.hid hpb
        have HVp := Lib.hid (hVo.same hSp)
        have HDp := Lib.hid (hH.out.2.1.trans (Wrote.of_same (lo := W.heap.size) (wb := wb) hSp))
        have HNE := Lib.hid (show pb ≠ wb by have h1 := hH.out.2.1.size; have := HWB.out; omega)
        have HWP := Lib.hid (show wb < wp.heap.size by have h1 := hH.out.2.1.size; have := HWB.out; have := hSp.size; omega)
        have EWP := Lib.hid ewp
        have EPB := Lib.hid epb
        clear hu hc e2 el1 ewp epb hSp hpb hH hVo i0 i1 i2 i3 i4 i5
        go_upto_region 4 with fail
        rw [EWP.out, EPB.out]
        clear g0 g1 g2 g3 g4 g5 g6 g7 g8 g9 g10 g11 g12 g13 g14
        go_wp2_with fail
        go_loopw [21] (fun s21 wr => ∃ j : Nat, s21 = .int .i64 j ∧ j ≤ 3 ∧ Hid (WrAt wr wb W.heap.size (l1 ++ ([x0, x1, x2, x3, x4, x5, x6, x7, x8].take (3 * j)).flatMap encN)) ∧ Hid (Wrote W.heap.size wb wp wr)) (fun s21 _ => 3 - (intOf s21).toNat)
        case atStart => exact ⟨0, rfl, by omega, Lib.hid (by simpa using HVp.out), Lib.hid (Wrote.refl _ _ _)⟩
        case round =>
          clear k0 k1 k2 k3 k4 k5 k6 k7 k8
          obtain ⟨j, rfl, hj', hV, hD⟩ := hrel
          obtain ⟨wr, rfl⟩ : ∃ wz, wz = wr := ⟨_, rfl⟩
          have hcase : j = 0 ∨ j = 1 ∨ j = 2 ∨ j = 3 := by omega
          clear hj'
          rcases hcase with rfl | rfl | rfl | rfl
          · rw [show ((0 : Nat) : Int) = 0 from rfl]
            obtain ⟨wt, ewt⟩ : ∃ wt, wr.alloc (.cells #[.int .u64 x0, .int .u64 x1, .int .u64 x2] 58) = wt := ⟨_, rfl⟩
            obtain ⟨tb, etb⟩ : ∃ tb, wr.heap.size = tb := ⟨_, rfl⟩
            have hSt : Same wr wt := by rw [← ewt]; exact (Same.refl wr).alloc _
            have htb : wt.heap[tb]? = some (.cells #[.int .u64 x0, .int .u64 x1, .int .u64 x2] 58 (0, 0)) := by rw [← ewt, ← etb]; exact heap_new _ _
            have k0 : wt.cell? ⟨tb, 0, none⟩ = some (.int .u64 x0) := by rw [cell_at htb]; rfl
            have k1 : wt.cell? ⟨tb, 1, none⟩ = some (.int .u64 x1) := by rw [cell_at htb]; rfl
            have k2 : wt.cell? ⟨tb, 2, none⟩ = some (.int .u64 x2) := by rw [cell_at htb]; rfl
            obtain ⟨wq, ewq⟩ : ∃ wq, wt.alloc (.cells #[.int .u64 x0, .int .u64 x1, .int .u64 x2] 33) = wq := ⟨_, rfl⟩
            obtain ⟨qb, eqb⟩ : ∃ qb, wt.heap.size = qb := ⟨_, rfl⟩
            have hSq : Same wt wq := by rw [← ewq]; exact (Same.refl wt).alloc _
            have hqb : wq.heap[qb]? = some (.cells (vals [x0, x1, x2]).toArray 33 (0, 0)) := by rw [← ewq, ← eqb]; exact heap_new _ _
            have HV := Lib.hid (hV.out.same (hSt.trans hSq))
            have HD := Lib.hid (hD.out.trans (Wrote.of_same (lo := W.heap.size) (wb := wb) (hSt.trans hSq)))
            have HIN := Lib.hid (Wrote.ints (lo := W.heap.size) (wb := wb) hqb (by
              have h1 := hD.out.size
              have h2 := hSt.size
              have h3 := HWP.out
              omega) (by intro x hx; simp at hx; rcases hx with rfl | rfl | rfl; exact HU.out _ (by simp); exact HU.out _ (by simp); exact HU.out _ (by simp)) (by simp))
            have EWT := Lib.hid ewt
            have ETB := Lib.hid etb
            have EWQ := Lib.hid ewq
            have EQB := Lib.hid eqb
            clear hV hD ewt etb ewq eqb hSt hSq htb hqb
            have hix : ∀ w : World, (Instr.index 59 (.agg #[.int .u64 x0, .int .u64 x1, .int .u64 x2, .int .u64 x3, .int .u64 x4, .int .u64 x5, .int .u64 x6, .int .u64 x7, .int .u64 x8]) (.int .i64 0)).run Try.prog w = .ok (.agg #[.int .u64 x0, .int .u64 x1, .int .u64 x2]) w := fun _ => rfl
            go_upto_region 7 with fail
            rw [EWT.out, ETB.out]
            go_wp2_with fail
            rw [EWQ.out, EQB.out]
            refine (wnum_any W.heap.size wb (l1 ++ ([x0, x1, x2, x3, x4, x5, x6, x7, x8].take (3 * 0)).flatMap encN) (some ⟨qb, 0, none⟩) 3 3 [x0, x1, x2] (by rw [List.length_append, flat_len]; simp; omega) wq HV.out HIN.out).mono ?_
            rintro e w5 ⟨rfl, hO5, hV5⟩
            have HV5 := Lib.hid (show WrAt w5 wb W.heap.size (l1 ++ ([x0, x1, x2, x3, x4, x5, x6, x7, x8].take (3 * (0 + 1))).flatMap encN) by rw [List.append_assoc, ← List.flatMap_append] at hV5; exact hV5)
            have HD5 := Lib.hid (HD.out.trans hO5)
            clear hO5 hV5 k0 k1 k2
            go_wp2_with fail
            go_roundw
            case rel => exact ⟨0 + 1, by go_num, by omega, HV5, HD5⟩
            case measure => simp [intOf]
          · rw [show ((1 : Nat) : Int) = 1 from rfl]
            obtain ⟨wt, ewt⟩ : ∃ wt, wr.alloc (.cells #[.int .u64 x3, .int .u64 x4, .int .u64 x5] 58) = wt := ⟨_, rfl⟩
            obtain ⟨tb, etb⟩ : ∃ tb, wr.heap.size = tb := ⟨_, rfl⟩
            have hSt : Same wr wt := by rw [← ewt]; exact (Same.refl wr).alloc _
            have htb : wt.heap[tb]? = some (.cells #[.int .u64 x3, .int .u64 x4, .int .u64 x5] 58 (0, 0)) := by rw [← ewt, ← etb]; exact heap_new _ _
            have k0 : wt.cell? ⟨tb, 0, none⟩ = some (.int .u64 x3) := by rw [cell_at htb]; rfl
            have k1 : wt.cell? ⟨tb, 1, none⟩ = some (.int .u64 x4) := by rw [cell_at htb]; rfl
            have k2 : wt.cell? ⟨tb, 2, none⟩ = some (.int .u64 x5) := by rw [cell_at htb]; rfl
            obtain ⟨wq, ewq⟩ : ∃ wq, wt.alloc (.cells #[.int .u64 x3, .int .u64 x4, .int .u64 x5] 33) = wq := ⟨_, rfl⟩
            obtain ⟨qb, eqb⟩ : ∃ qb, wt.heap.size = qb := ⟨_, rfl⟩
            have hSq : Same wt wq := by rw [← ewq]; exact (Same.refl wt).alloc _
            have hqb : wq.heap[qb]? = some (.cells (vals [x3, x4, x5]).toArray 33 (0, 0)) := by rw [← ewq, ← eqb]; exact heap_new _ _
            have HV := Lib.hid (hV.out.same (hSt.trans hSq))
            have HD := Lib.hid (hD.out.trans (Wrote.of_same (lo := W.heap.size) (wb := wb) (hSt.trans hSq)))
            have HIN := Lib.hid (Wrote.ints (lo := W.heap.size) (wb := wb) hqb (by
              have h1 := hD.out.size
              have h2 := hSt.size
              have h3 := HWP.out
              omega) (by intro x hx; simp at hx; rcases hx with rfl | rfl | rfl; exact HU.out _ (by simp); exact HU.out _ (by simp); exact HU.out _ (by simp)) (by simp))
            have EWT := Lib.hid ewt
            have ETB := Lib.hid etb
            have EWQ := Lib.hid ewq
            have EQB := Lib.hid eqb
            clear hV hD ewt etb ewq eqb hSt hSq htb hqb
            have hix : ∀ w : World, (Instr.index 59 (.agg #[.int .u64 x0, .int .u64 x1, .int .u64 x2, .int .u64 x3, .int .u64 x4, .int .u64 x5, .int .u64 x6, .int .u64 x7, .int .u64 x8]) (.int .i64 1)).run Try.prog w = .ok (.agg #[.int .u64 x3, .int .u64 x4, .int .u64 x5]) w := fun _ => rfl
            go_upto_region 7 with fail
            rw [EWT.out, ETB.out]
            go_wp2_with fail
            rw [EWQ.out, EQB.out]
            refine (wnum_any W.heap.size wb (l1 ++ ([x0, x1, x2, x3, x4, x5, x6, x7, x8].take (3 * 1)).flatMap encN) (some ⟨qb, 0, none⟩) 3 3 [x3, x4, x5] (by rw [List.length_append, flat_len]; simp; omega) wq HV.out HIN.out).mono ?_
            rintro e w5 ⟨rfl, hO5, hV5⟩
            have HV5 := Lib.hid (show WrAt w5 wb W.heap.size (l1 ++ ([x0, x1, x2, x3, x4, x5, x6, x7, x8].take (3 * (1 + 1))).flatMap encN) by rw [List.append_assoc, ← List.flatMap_append] at hV5; exact hV5)
            have HD5 := Lib.hid (HD.out.trans hO5)
            clear hO5 hV5 k0 k1 k2
            go_wp2_with fail
            go_roundw
            case rel => exact ⟨1 + 1, by go_num, by omega, HV5, HD5⟩
            case measure => simp [intOf]
          · rw [show ((2 : Nat) : Int) = 2 from rfl]
            obtain ⟨wt, ewt⟩ : ∃ wt, wr.alloc (.cells #[.int .u64 x6, .int .u64 x7, .int .u64 x8] 58) = wt := ⟨_, rfl⟩
            obtain ⟨tb, etb⟩ : ∃ tb, wr.heap.size = tb := ⟨_, rfl⟩
            have hSt : Same wr wt := by rw [← ewt]; exact (Same.refl wr).alloc _
            have htb : wt.heap[tb]? = some (.cells #[.int .u64 x6, .int .u64 x7, .int .u64 x8] 58 (0, 0)) := by rw [← ewt, ← etb]; exact heap_new _ _
            have k0 : wt.cell? ⟨tb, 0, none⟩ = some (.int .u64 x6) := by rw [cell_at htb]; rfl
            have k1 : wt.cell? ⟨tb, 1, none⟩ = some (.int .u64 x7) := by rw [cell_at htb]; rfl
            have k2 : wt.cell? ⟨tb, 2, none⟩ = some (.int .u64 x8) := by rw [cell_at htb]; rfl
            obtain ⟨wq, ewq⟩ : ∃ wq, wt.alloc (.cells #[.int .u64 x6, .int .u64 x7, .int .u64 x8] 33) = wq := ⟨_, rfl⟩
            obtain ⟨qb, eqb⟩ : ∃ qb, wt.heap.size = qb := ⟨_, rfl⟩
            have hSq : Same wt wq := by rw [← ewq]; exact (Same.refl wt).alloc _
            have hqb : wq.heap[qb]? = some (.cells (vals [x6, x7, x8]).toArray 33 (0, 0)) := by rw [← ewq, ← eqb]; exact heap_new _ _
            have HV := Lib.hid (hV.out.same (hSt.trans hSq))
            have HD := Lib.hid (hD.out.trans (Wrote.of_same (lo := W.heap.size) (wb := wb) (hSt.trans hSq)))
            have HIN := Lib.hid (Wrote.ints (lo := W.heap.size) (wb := wb) hqb (by
              have h1 := hD.out.size
              have h2 := hSt.size
              have h3 := HWP.out
              omega) (by intro x hx; simp at hx; rcases hx with rfl | rfl | rfl; exact HU.out _ (by simp); exact HU.out _ (by simp); exact HU.out _ (by simp)) (by simp))
            have EWT := Lib.hid ewt
            have ETB := Lib.hid etb
            have EWQ := Lib.hid ewq
            have EQB := Lib.hid eqb
            clear hV hD ewt etb ewq eqb hSt hSq htb hqb
            have hix : ∀ w : World, (Instr.index 59 (.agg #[.int .u64 x0, .int .u64 x1, .int .u64 x2, .int .u64 x3, .int .u64 x4, .int .u64 x5, .int .u64 x6, .int .u64 x7, .int .u64 x8]) (.int .i64 2)).run Try.prog w = .ok (.agg #[.int .u64 x6, .int .u64 x7, .int .u64 x8]) w := fun _ => rfl
            go_upto_region 7 with fail
            rw [EWT.out, ETB.out]
            go_wp2_with fail
            rw [EWQ.out, EQB.out]
            refine (wnum_any W.heap.size wb (l1 ++ ([x0, x1, x2, x3, x4, x5, x6, x7, x8].take (3 * 2)).flatMap encN) (some ⟨qb, 0, none⟩) 3 3 [x6, x7, x8] (by rw [List.length_append, flat_len]; simp; omega) wq HV.out HIN.out).mono ?_
            rintro e w5 ⟨rfl, hO5, hV5⟩
            have HV5 := Lib.hid (show WrAt w5 wb W.heap.size (l1 ++ ([x0, x1, x2, x3, x4, x5, x6, x7, x8].take (3 * (2 + 1))).flatMap encN) by rw [List.append_assoc, ← List.flatMap_append] at hV5; exact hV5)
            have HD5 := Lib.hid (HD.out.trans hO5)
            clear hO5 hV5 k0 k1 k2
            go_wp2_with fail
            go_roundw
            case rel => exact ⟨2 + 1, by go_num, by omega, HV5, HD5⟩
            case measure => simp [intOf]
          · rw [show ((3 : Nat) : Int) = 3 from rfl]
            have hpr := hD.out.keep HPB.out HNE.out (by decide)
            have k0 : wr.cell? ⟨pb, 9, none⟩ = some (.slice p0 m0 d0) := by rw [cell_at hpr]; rfl
            have k1 : wr.cell? ⟨pb, 10, none⟩ = some (.slice p1 m1 d1) := by rw [cell_at hpr]; rfl
            have k2 : wr.cell? ⟨pb, 11, none⟩ = some (.slice p2 m2 d2) := by rw [cell_at hpr]; rfl
            have k3 : wr.cell? ⟨pb, 12, none⟩ = some (.slice p3 m3 d3) := by rw [cell_at hpr]; rfl
            have k4 : wr.cell? ⟨pb, 13, none⟩ = some (.slice p4 m4 d4) := by rw [cell_at hpr]; rfl
            have k5 : wr.cell? ⟨pb, 14, none⟩ = some (.slice p5 m5 d5) := by rw [cell_at hpr]; rfl
            obtain ⟨l2, el2⟩ : ∃ l2, l1 ++ [x0, x1, x2, x3, x4, x5, x6, x7, x8].flatMap encN = l2 := ⟨_, rfl⟩
            have hl2 : l2.length ≤ 40000 := by rw [← el2, List.length_append, flat_len]; simp; omega
            have HV2 := Lib.hid (show WrAt wr wb W.heap.size l2 by rw [← el2]; exact hV.out)
            have HD2 := Lib.hid (HDp.out.trans hD.out)
            have EL2 := Lib.hid el2
            clear hV hD hpr el2
            go_wp2_with fail
            go_loopw [36] (fun s36 wr => ∃ j : Nat, s36 = .int .i64 j ∧ j ≤ 3 ∧ Hid (WrAt wr wb W.heap.size (l2 ++ ([q0, q1, q2].take j).flatMap proofC.enc) ∧ ∀ x ∈ [q0, q1, q2].take j, proofC.ok x) ∧ Hid (Wrote W.heap.size wb w wr)) (fun s36 _ => 3 - (intOf s36).toNat)
            case atStart => exact ⟨0, rfl, by omega, Lib.hid ⟨by simpa using HV2.out, by simp⟩, HD2⟩
            case round =>
              clear k0 k1 k2 k3 k4 k5
              obtain ⟨j, rfl, hj', hV, hD⟩ := hrel
              obtain ⟨wr, rfl⟩ : ∃ wz, wz = wr := ⟨_, rfl⟩
              have hcase : j = 0 ∨ j = 1 ∨ j = 2 ∨ j = 3 := by omega
              obtain ⟨l3, el3⟩ : ∃ l3, l2 ++ ([q0, q1, q2].take j).flatMap proofC.enc = l3 := ⟨_, rfl⟩
              have hl3 : l3.length ≤ 50000 := by
                have h1 := flat_le (f := proofC.enc) (K := 1028) ([q0, q1, q2].take j) (fun x hx => proof_len (hV.out.2 x hx))
                have h2 : ([q0, q1, q2].take j).length ≤ 3 := by rw [List.length_take]; exact Nat.min_le_right _ _
                rw [← el3, List.length_append]
                omega
              clear hj'
              rcases hcase with rfl | rfl | rfl | rfl
              · rw [show ((0 : Nat) : Int) = 0 from rfl]
                obtain ⟨wt, ewt⟩ : ∃ wt, wr.alloc (.cells #[.slice p0 m0 d0, .slice p1 m1 d1] 26) = wt := ⟨_, rfl⟩
                obtain ⟨tb, etb⟩ : ∃ tb, wr.heap.size = tb := ⟨_, rfl⟩
                have hSt : Same wr wt := by rw [← ewt]; exact (Same.refl wr).alloc _
                have htb : wt.heap[tb]? = some (.cells #[.slice p0 m0 d0, .slice p1 m1 d1] 26 (0, 0)) := by rw [← ewt, ← etb]; exact heap_new _ _
                have k0 : wt.cell? ⟨tb, 0, none⟩ = some (.slice p0 m0 d0) := by rw [cell_at htb]; rfl
                have k1 : wt.cell? ⟨tb, 1, none⟩ = some (.slice p1 m1 d1) := by rw [cell_at htb]; rfl
                have HV := Lib.hid (show WrAt wt wb W.heap.size l3 by rw [← el3]; exact hV.out.1.same hSt)
                have HOKS := Lib.hid hV.out.2
                have HD := Lib.hid (hD.out.trans (Wrote.of_same (lo := W.heap.size) (wb := wb) hSt))
                have EL3 := Lib.hid el3
                have EWT := Lib.hid ewt
                have ETB := Lib.hid etb
                clear hV hD ewt etb hSt htb el3
                have hix : ∀ w : World, (Instr.index 60 (.agg #[.slice p0 m0 d0, .slice p1 m1 d1, .slice p2 m2 d2, .slice p3 m3 d3, .slice p4 m4 d4, .slice p5 m5 d5]) (.int .i64 0)).run Try.prog w = .ok (.agg #[.slice p0 m0 d0, .slice p1 m1 d1]) w := fun _ => rfl
                go_upto_region 12 with fail
                rw [EWT.out, ETB.out]
                go_wp2_with fail
                refine (wproof_any W.heap.size wb l3 p0 m0 d0 p1 m1 d1 q0 (by omega) wt HV.out (fun w' hw => KEEP.out _ _ _ _ (HD.out.trans hw) I0.out) (fun w' hw => KEEP.out _ _ _ _ (HD.out.trans hw) I1.out)).mono ?_
                rintro e w5 ⟨hO5, (⟨hok, rfl, hV5⟩ | ⟨hok, rfl⟩)⟩
                case inr =>
                  have HFN := Lib.hid (show Wrote W.heap.size wb w w5 ∧ ¬ passlC.ok ls from ⟨HD.out.trans hO5, fun h => hok ((h.2 _ HMEM.out).2.2 q0 (by simp))⟩)
                  clear hO5 hok
                  go_wp2_with fail
                  exact ⟨rfl, HFN.out.1, Or.inr ⟨HFN.out.2, rfl⟩⟩
                have HV5 := Lib.hid (show WrAt w5 wb W.heap.size (l2 ++ ([q0, q1, q2].take (0 + 1)).flatMap proofC.enc) ∧ ∀ x ∈ [q0, q1, q2].take (0 + 1), proofC.ok x from
                  ⟨by rw [← EL3.out, List.append_assoc] at hV5; simpa using hV5, by
                    have h1 := HOKS.out
                    intro x hx
                    simp at hx h1
                    subst hx; exact hok⟩)
                have HD5 := Lib.hid (HD.out.trans hO5)
                clear hO5 hV5 hok k0 k1
                go_wp2_with fail
                go_roundw
                case rel => exact ⟨0 + 1, by go_num, by omega, HV5, HD5⟩
                case measure => simp [intOf]
              · rw [show ((1 : Nat) : Int) = 1 from rfl]
                obtain ⟨wt, ewt⟩ : ∃ wt, wr.alloc (.cells #[.slice p2 m2 d2, .slice p3 m3 d3] 26) = wt := ⟨_, rfl⟩
                obtain ⟨tb, etb⟩ : ∃ tb, wr.heap.size = tb := ⟨_, rfl⟩
                have hSt : Same wr wt := by rw [← ewt]; exact (Same.refl wr).alloc _
                have htb : wt.heap[tb]? = some (.cells #[.slice p2 m2 d2, .slice p3 m3 d3] 26 (0, 0)) := by rw [← ewt, ← etb]; exact heap_new _ _
                have k0 : wt.cell? ⟨tb, 0, none⟩ = some (.slice p2 m2 d2) := by rw [cell_at htb]; rfl
                have k1 : wt.cell? ⟨tb, 1, none⟩ = some (.slice p3 m3 d3) := by rw [cell_at htb]; rfl
                have HV := Lib.hid (show WrAt wt wb W.heap.size l3 by rw [← el3]; exact hV.out.1.same hSt)
                have HOKS := Lib.hid hV.out.2
                have HD := Lib.hid (hD.out.trans (Wrote.of_same (lo := W.heap.size) (wb := wb) hSt))
                have EL3 := Lib.hid el3
                have EWT := Lib.hid ewt
                have ETB := Lib.hid etb
                clear hV hD ewt etb hSt htb el3
                have hix : ∀ w : World, (Instr.index 60 (.agg #[.slice p0 m0 d0, .slice p1 m1 d1, .slice p2 m2 d2, .slice p3 m3 d3, .slice p4 m4 d4, .slice p5 m5 d5]) (.int .i64 1)).run Try.prog w = .ok (.agg #[.slice p2 m2 d2, .slice p3 m3 d3]) w := fun _ => rfl
                go_upto_region 12 with fail
                rw [EWT.out, ETB.out]
                go_wp2_with fail
                refine (wproof_any W.heap.size wb l3 p2 m2 d2 p3 m3 d3 q1 (by omega) wt HV.out (fun w' hw => KEEP.out _ _ _ _ (HD.out.trans hw) I2.out) (fun w' hw => KEEP.out _ _ _ _ (HD.out.trans hw) I3.out)).mono ?_
                rintro e w5 ⟨hO5, (⟨hok, rfl, hV5⟩ | ⟨hok, rfl⟩)⟩
                case inr =>
                  have HFN := Lib.hid (show Wrote W.heap.size wb w w5 ∧ ¬ passlC.ok ls from ⟨HD.out.trans hO5, fun h => hok ((h.2 _ HMEM.out).2.2 q1 (by simp))⟩)
                  clear hO5 hok
                  go_wp2_with fail
                  exact ⟨rfl, HFN.out.1, Or.inr ⟨HFN.out.2, rfl⟩⟩
                have HV5 := Lib.hid (show WrAt w5 wb W.heap.size (l2 ++ ([q0, q1, q2].take (1 + 1)).flatMap proofC.enc) ∧ ∀ x ∈ [q0, q1, q2].take (1 + 1), proofC.ok x from
                  ⟨by rw [← EL3.out, List.append_assoc] at hV5; simpa using hV5, by
                    have h1 := HOKS.out
                    intro x hx
                    simp at hx h1
                    rcases hx with rfl | rfl
                    · exact h1
                    · exact hok⟩)
                have HD5 := Lib.hid (HD.out.trans hO5)
                clear hO5 hV5 hok k0 k1
                go_wp2_with fail
                go_roundw
                case rel => exact ⟨1 + 1, by go_num, by omega, HV5, HD5⟩
                case measure => simp [intOf]
              · rw [show ((2 : Nat) : Int) = 2 from rfl]
                obtain ⟨wt, ewt⟩ : ∃ wt, wr.alloc (.cells #[.slice p4 m4 d4, .slice p5 m5 d5] 26) = wt := ⟨_, rfl⟩
                obtain ⟨tb, etb⟩ : ∃ tb, wr.heap.size = tb := ⟨_, rfl⟩
                have hSt : Same wr wt := by rw [← ewt]; exact (Same.refl wr).alloc _
                have htb : wt.heap[tb]? = some (.cells #[.slice p4 m4 d4, .slice p5 m5 d5] 26 (0, 0)) := by rw [← ewt, ← etb]; exact heap_new _ _
                have k0 : wt.cell? ⟨tb, 0, none⟩ = some (.slice p4 m4 d4) := by rw [cell_at htb]; rfl
                have k1 : wt.cell? ⟨tb, 1, none⟩ = some (.slice p5 m5 d5) := by rw [cell_at htb]; rfl
                have HV := Lib.hid (show WrAt wt wb W.heap.size l3 by rw [← el3]; exact hV.out.1.same hSt)
                have HOKS := Lib.hid hV.out.2
                have HD := Lib.hid (hD.out.trans (Wrote.of_same (lo := W.heap.size) (wb := wb) hSt))
                have EL3 := Lib.hid el3
                have EWT := Lib.hid ewt
                have ETB := Lib.hid etb
                clear hV hD ewt etb hSt htb el3
                have hix : ∀ w : World, (Instr.index 60 (.agg #[.slice p0 m0 d0, .slice p1 m1 d1, .slice p2 m2 d2, .slice p3 m3 d3, .slice p4 m4 d4, .slice p5 m5 d5]) (.int .i64 2)).run Try.prog w = .ok (.agg #[.slice p4 m4 d4, .slice p5 m5 d5]) w := fun _ => rfl
                go_upto_region 12 with fail
                rw [EWT.out, ETB.out]
                go_wp2_with fail
                refine (wproof_any W.heap.size wb l3 p4 m4 d4 p5 m5 d5 q2 (by omega) wt HV.out (fun w' hw => KEEP.out _ _ _ _ (HD.out.trans hw) I4.out) (fun w' hw => KEEP.out _ _ _ _ (HD.out.trans hw) I5.out)).mono ?_
                rintro e w5 ⟨hO5, (⟨hok, rfl, hV5⟩ | ⟨hok, rfl⟩)⟩
                case inr =>
                  have HFN := Lib.hid (show Wrote W.heap.size wb w w5 ∧ ¬ passlC.ok ls from ⟨HD.out.trans hO5, fun h => hok ((h.2 _ HMEM.out).2.2 q2 (by simp))⟩)
                  clear hO5 hok
                  go_wp2_with fail
                  exact ⟨rfl, HFN.out.1, Or.inr ⟨HFN.out.2, rfl⟩⟩
                have HV5 := Lib.hid (show WrAt w5 wb W.heap.size (l2 ++ ([q0, q1, q2].take (2 + 1)).flatMap proofC.enc) ∧ ∀ x ∈ [q0, q1, q2].take (2 + 1), proofC.ok x from
                  ⟨by rw [← EL3.out, List.append_assoc] at hV5; simpa using hV5, by
                    have h1 := HOKS.out
                    intro x hx
                    simp at hx h1
                    rcases hx with rfl | rfl | rfl
                    · exact h1.1
                    · exact h1.2
                    · exact hok⟩)
                have HD5 := Lib.hid (HD.out.trans hO5)
                clear hO5 hV5 hok k0 k1
                go_wp2_with fail
                go_roundw
                case rel => exact ⟨2 + 1, by go_num, by omega, HV5, HD5⟩
                case measure => simp [intOf]
              · rw [show ((3 : Nat) : Int) = 3 from rfl]
                have HFIN := Lib.hid (show WrAt wr wb W.heap.size (l ++ encC n ++ (ls.take (i + 1)).flatMap passC.enc) ∧ Wrote W.heap.size wb w wr ∧ ∀ x ∈ ls.take (i + 1), passC.ok x from
                  ⟨by
                    rw [HL1.out]
                    have h := hV.out.1
                    rw [← EL2.out, List.append_assoc] at h
                    exact h, hD.out, HOKN.out ⟨⟨rfl, HU.out⟩, rfl, hV.out.2⟩⟩)
                clear hV hD el3
                go_wp2_with fail
                go_roundw
                case rel => exact ⟨i + 1, by go_num, by omega, HFIN⟩
                case measure => simp [intOf]; omega
      · obtain rfl : n = i := by omega
        have HFIN := Lib.hid (show Wrote W.heap.size wb w wo ∧ passlC.ok ls ∧ WrAt wo wb W.heap.size (l ++ passlC.enc ls) from
          ⟨hH.out.2.1, ⟨⟨by have := HNL.out; omega, by have := HNL.out; omega⟩, by have h := hH.out.2.2; rwa [List.take_of_length_le (by have := HNL.out; omega)] at h⟩, by
            have h := hH.out.1
            rw [List.take_of_length_le (by have := HNL.out; omega), List.append_assoc] at h
            show WrAt wo wb W.heap.size (l ++ (encC ls.length ++ ls.flatMap passC.enc))
            rw [HNL.out]; exact h⟩)
        clear hH
        go_wp2_with fail
        exact ⟨rfl, _, results_none rfl _ _ _, HFIN.out.1, Or.inl ⟨HFIN.out.2.1, rfl, HFIN.out.2.2⟩⟩
theorem wPassed_any (a : Option Addr) (n c : Nat) (ls : List PassD) (w : World) (hx : PassAt w a n ls) :
    Calls Try.prog 20 #[.slice a n c] w fun z w' =>
      Same w w' ∧ ((passlC.ok ls ∧ z = .returned (.tuple #[.string (ofL (3 :: passlC.enc ls)), .bool true])) ∨ (¬ passlC.ok ls ∧ z = .returned (.tuple #[.string { data := #[] }, .bool false]))) := by
  obtain ⟨xb, exb⟩ : ∃ xb, w.heap.size = xb := ⟨_, rfl⟩
  obtain ⟨w0, ew0⟩ : ∃ w0, w.alloc (.cells #[.slice a n c] 51) = w0 := ⟨_, rfl⟩
  have hS : Same w w0 := by rw [← ew0]; exact (Same.refl w).alloc _
  have HB := Lib.hid (show PxAt w0 xb (.slice a n c) by rw [← ew0, ← exb]; exact heap_new _ _)
  have HS := Lib.hid (show Below xb w w0 by rw [← exb]; exact hS)
  have HP := Lib.hid (putPassed xb xb a n c ls w hx exb)
  have HXL := Lib.hid (Array.getElem?_eq_some_iff.1 HB.out).1
  have EW0 := Lib.hid ew0
  have EXB := Lib.hid exb
  have hmf : ∀ (fn : Fn) (first cap : Array Value) (w : World), (Instr.makeFunc fn first cap).run Try.prog w = .ok (.func fn first cap) w := fun _ _ _ _ => rfl
  obtain ⟨OK, eok⟩ : ∃ OK, passlC.ok ls = OK := ⟨_, rfl⟩
  obtain ⟨E, ee⟩ : ∃ E, passlC.enc ls = E := ⟨_, rfl⟩
  rw [eok, ee] at HP ⊢
  clear hS ew0 exb eok ee hx
  go_enter Try.func20, Try.ntmps20
  go_upto_region 1 with fail
  rw [EW0.out, EXB.out]
  go_wp2_with fail
  refine (write_k _ xb xb OK E _ HP.out 3 3 rfl w0 (by have := HXL.out; omega) HXL.out ⟨HS.out, HB.out⟩).mono ?_
  rintro e w2 ⟨hb, (⟨hok, rfl⟩ | ⟨hok, rfl⟩)⟩
  · have HSM := Lib.hid (show Same w w2 by have h := HS.out.trans hb; rwa [← EXB.out] at h)
    clear hb
    go_wp2_with fail
    go_ret2
    exact ⟨HSM.out, Or.inl ⟨hok, rfl⟩⟩
  · have HSM := Lib.hid (show Same w w2 by have h := HS.out.trans hb; rwa [← EXB.out] at h)
    clear hb
    go_wp2_with fail
    go_ret2
    exact ⟨HSM.out, Or.inr ⟨hok, rfl⟩⟩
end Go.Proofs.Ytdbhcdhenapfoaa
