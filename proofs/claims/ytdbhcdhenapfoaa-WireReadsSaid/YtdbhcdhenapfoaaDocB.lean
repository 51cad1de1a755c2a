/- Layer 10: the document's reader: lists, proofs, boxes. -/
import Derived.Test.YtdbhcdhenapfoaaDocA
set_option linter.unusedVariables false
set_option linter.unusedSimpArgs false
namespace Go.Proofs.Ytdbhcdhenapfoaa
open Go.RowKit Go.Maps
theorem RdD.bad_cell {w : World} {rb : Nat} (h : RdD w rb none) : w.cell? ⟨rb, 1, none⟩ = some (.bool true) := by
  obtain ⟨s, hb, _⟩ := h.ex
  rw [cell_at hb]; rfl
theorem RdD.good_cell {w : World} {rb : Nat} {l : Bs} (h : RdD w rb (some l)) : w.cell? ⟨rb, 1, none⟩ = some (.bool false) := by
  obtain ⟨s, hb, _⟩ := h.ex
  rw [cell_at hb]; rfl
set_option maxHeartbeats 800000 in
theorem dlist_any (rb : Nat) (o : Option Bs) (w : World) (h : RdD w rb o) :
    Calls Try.prog 58 #[.pointer (some ⟨rb, 0, none⟩)] w fun z w' =>
      Off (· = rb) w w' ∧ ∃ v xs o1, OwnI w' w.heap.size v xs ∧ z = .returned v ∧ Step numsC.par o xs o1 ∧ RdD w' rb o1 := by
  have HR := Lib.hid h
  have HRL := Lib.hid h.lt
  clear h
  go_enter Try.func58, Try.ntmps58
  go_wp2_with fail
  refine (dcount_any rb 64 (by omega) o w HR.out).mono ?_
  rintro e w2 ⟨hO2, n, o1, hn, rfl, hst, hR2⟩
  have HO2 := Lib.hid hO2
  have HST := Lib.hid hst
  have HR2 := Lib.hid hR2
  have hn0 : (0 : Int) ≤ n := by omega
  obtain ⟨i0, hi, hz0, hz1, hz2⟩ := info_parts info_u64
  clear hO2 hst hR2
  go_wp2_with fail
  go_loopw [3, 5] (fun s3 s5 wr => ∃ i : Nat, s5 = .int .i64 i ∧ i ≤ n ∧ Hid (∃ xs o2, OwnI wr w.heap.size s3 xs ∧ xs.length = i ∧ Loop numC o1 n i xs o2 ∧ RdD wr rb o2) ∧ Hid (Off (· = rb) w wr)) (fun _ s5 _ => n - (intOf s5).toNat)
  case atStart => exact ⟨0, rfl, by omega, Lib.hid ⟨[], o1, OwnI.nil _ _, rfl, Loop.start _ _ _, HR2.out⟩, HO2⟩
  case round =>
    obtain ⟨i, rfl, hi', hI, hD⟩ := hrel
    obtain ⟨xs, o2, hown, hlen, hlp, hR⟩ := hI.out
    have HOW := Lib.hid hown
    have HLX := Lib.hid hlen
    have HLP := Lib.hid hlp
    have HRR := Lib.hid hR
    have hi0 : (0 : Int) ≤ i := by omega
    clear hI hown hlen hlp hR
    cases o2 with
    | none =>
      have k1 := HRR.out.bad_cell
      have HFIN := Lib.hid (Loop.listed HST.out HLP.out (Or.inl rfl))
      by_cases hlt : i < n
      · have hi1 : (i : Int) < n := by omega
        go_wp2_with fail
        go_ret
        exact ⟨hD.out, _, xs, none, HOW.out, rfl, HFIN.out, HRR.out⟩
      · obtain rfl : n = i := by omega
        go_wp2_with fail
        go_ret
        exact ⟨hD.out, _, xs, none, HOW.out, rfl, HFIN.out, HRR.out⟩
    | some r =>
      have k1 := HRR.out.good_cell
      by_cases hlt : i < n
      · have hi1 : (i : Int) < n := by omega
        go_wp2_with fail
        clear k1
        refine (dnum_any rb (some r) _ HRR.out).mono ?_
        rintro e w3 ⟨hO3, x, o3, hux, rfl, hst3, hR3⟩
        have HX := Lib.hid hux
        have HLP3 := Lib.hid (HLP.out.next hlt hst3)
        have HR3 := Lib.hid hR3
        have hD3 := Lib.hid (hD.out.trans hO3)
        have hown := (HOW.out.off hO3 (fun b hb => by have := HRL.out; simp; omega)).own
        obtain ⟨m, em⟩ : ∃ m, xs.length = m := ⟨_, rfl⟩
        have hm64 : m ≤ 64 := by rw [← em, HLX.out]; omega
        have HU := Lib.hid HOW.out.u
        rw [em] at hown
        have EM := Lib.hid em
        clear hst3 hux hO3 hR3 em
        go_wp2_with (first
          | (at_builtin; refine wpList_append_own _ rfl _ _ 24 rfl w.heap.size 33 i0 (.int .u64 0) 1 8 Try.underlying24 hi hz0 hz1 hz2 rfl (by decide) _ _ _ rfl (hown.alloc _) ⟨w3.heap.size, 0, none⟩ 1 1 [.int .u64 x] rfl rfl (one_new _ _ _) (one_cell _) (by unfold maxLen; omega) (by omega) (by have := hD3.out.size; simp; omega) ?_; intro v' w7 hown' hgrow _; have hb2 := Lib.hid (hD3.out.alloc (.cells #[.int .u64 x] 33) |>.grown hgrow (fun k hk => (hown.lt k hk).1)); have hN7 := Lib.hid hown'; have hG7 := Lib.hid hgrow; clear hown' hgrow))
        have HFIN := Lib.hid (show ∃ xs o2, OwnI w7 w.heap.size v' xs ∧ xs.length = i + 1 ∧ Loop numC o1 n (i + 1) xs o2 ∧ RdD w7 rb o2 from ⟨_, _, OwnI.push HU.out HX.out (by rw [EM.out]; omega) (by rw [EM.out]; exact hN7.out), by rw [List.length_append, HLX.out]; rfl, HLP3.out, by
          have h0 := HR3.out.same ((Same.refl w3).alloc (.cells #[.int .u64 x] 33))
          exact h0.far (hG7.out.block rb h0.lt (fun e => by have := (hown.lt rb e.symm).1; have := HRL.out; omega))⟩)
        clear hown hN7 hG7
        go_roundw
        case rel => exact ⟨i + 1, by go_num, by omega, HFIN, hb2⟩
        case measure => simp [intOf]; omega
      · obtain rfl : n = i := by omega
        have HFIN := Lib.hid (Loop.listed HST.out HLP.out (Or.inr rfl))
        go_wp2_with fail
        go_ret
        exact ⟨hD.out, _, xs, _, HOW.out, rfl, HFIN.out, HRR.out⟩
set_option maxHeartbeats 800000 in
theorem dproof_any (rb : Nat) (o : Option Bs) (w : World) (h : RdD w rb o) :
    Calls Try.prog 55 #[.pointer (some ⟨rb, 0, none⟩)] w fun z w' =>
      Off (· = rb) w w' ∧ ∃ a1 n1 c1 a2 n2 c2 p o1, OwnI w' w.heap.size (.slice a1 n1 c1) p.1 ∧ OwnI w' w.heap.size (.slice a2 n2 c2) p.2 ∧ z = .returned (.agg #[.slice a1 n1 c1, .slice a2 n2 c2]) ∧ Step proofC.par o p o1 ∧ RdD w' rb o1 := by
  obtain ⟨b2, eb2⟩ : ∃ b2, w.heap.size = b2 := ⟨_, rfl⟩
  obtain ⟨w0, ew0⟩ : ∃ w0, (w.alloc (.cells #[.slice none 0 0, .slice none 0 0] 26)).alloc (.cells #[.slice none 0 0, .slice none 0 0] 26) = w0 := ⟨_, rfl⟩
  have hsz : (w.alloc (.cells #[.slice none 0 0, .slice none 0 0] 26)).heap.size = b2 + 1 := by rw [← eb2]; simp
  have HRL := Lib.hid (show rb < b2 by rw [← eb2]; exact h.lt)
  have hS0 : Same w w0 := by rw [← ew0]; exact ((Same.refl w).alloc _).alloc _
  have HB2 := Lib.hid (show w0.heap[b2]? = some (.cells #[.slice none 0 0, .slice none 0 0] 26 (0, 0)) by rw [← ew0, ← eb2]; exact ((Same.refl _).alloc _).keep (heap_new _ _))
  have HB3 := Lib.hid (show w0.heap[b2 + 1]? = some (.cells #[.slice none 0 0, .slice none 0 0] 26 (0, 0)) by rw [← ew0, ← hsz]; exact heap_new _ _)
  have HZ0 := Lib.hid (show w0.heap.size = b2 + 2 by rw [← ew0]; simp; omega)
  have HR0 := Lib.hid (h.same hS0)
  have HO0 := Lib.hid (show Off (· = rb) w w0 from Off.of_same hS0)
  have EW0 := Lib.hid ew0
  have EB2 := Lib.hid eb2
  clear h hS0 ew0 eb2 hsz
  go_enter Try.func55, Try.ntmps55
  go_upto_region 2 with fail
  rw [EW0.out, EB2.out]
  go_wp2_with fail
  refine (dlist_any rb o w0 HR0.out).mono ?_
  rintro e w1 ⟨hO1, v1, xs, o1, hv1, rfl, hs1, hR1⟩
  obtain ⟨a1, n1, c1, rfl⟩ := hv1.form
  have hb21 := hO1.keep (b := b2) (by have := HRL.out; omega) HB2.out
  have hb31 := hO1.keep (b := b2 + 1) (by have := HRL.out; omega) HB3.out
  have c0 : w1.cell? ⟨b2 + 1, 0, none⟩ = some (.slice none 0 0) := by rw [cell_at hb31]; rfl
  have f0 : w1.frozen? ⟨b2 + 1, 0, none⟩ = false := free_at hb31
  obtain ⟨w2, ew2⟩ : ∃ w2, w1.setCell ⟨b2 + 1, 0, none⟩ (.slice a1 n1 c1) = w2 := ⟨_, rfl⟩
  have HB22 := Lib.hid (show w2.heap[b2]? = some (.cells #[.slice none 0 0, .slice none 0 0] 26 (0, 0)) by rw [← ew2]; exact put_far hb21 (by omega))
  have HB32 := Lib.hid (show w2.heap[b2 + 1]? = some (.cells #[.slice a1 n1 c1, .slice none 0 0] 26 (0, 0)) by rw [← ew2]; exact heap_set hb31 _)
  have HO2 := Lib.hid (show Off (· = rb) w w2 by rw [← ew2]; exact (HO0.out.trans hO1).put (by have := EB2.out; omega) _ _)
  have HR2 := Lib.hid (show RdD w2 rb o1 by rw [← ew2]; exact hR1.put (by have := HRL.out; omega) _)
  have HV1 := Lib.hid (show OwnI w2 (b2 + 2) (.slice a1 n1 c1) xs by rw [← ew2, ← HZ0.out]; exact hv1.put hb31 (by decide))
  have HS1 := Lib.hid hs1
  have EW2 := Lib.hid ew2
  clear hO1 hv1 hs1 hR1 hb21 hb31 ew2
  go_upto_region 3 with fail
  rw [EW2.out]
  clear c0 f0
  go_wp2_with fail
  refine (dlist_any rb o1 w2 HR2.out).mono ?_
  rintro e w3 ⟨hO3, v2, ys, o2, hv2, rfl, hs2, hR3⟩
  obtain ⟨a2, n2, c2, rfl⟩ := hv2.form
  have hb23 := hO3.keep (b := b2) (by have := HRL.out; omega) HB22.out
  have hb33 := hO3.keep (b := b2 + 1) (by have := HRL.out; omega) HB32.out
  have c1' : w3.cell? ⟨b2 + 1, 1, none⟩ = some (.slice none 0 0) := by rw [cell_at hb33]; rfl
  have f1' : w3.frozen? ⟨b2 + 1, 1, none⟩ = false := free_at hb33
  obtain ⟨w4, ew4⟩ : ∃ w4, w3.setCell ⟨b2 + 1, 1, none⟩ (.slice a2 n2 c2) = w4 := ⟨_, rfl⟩
  have hb24 : w4.heap[b2]? = some (.cells #[.slice none 0 0, .slice none 0 0] 26 (0, 0)) := by rw [← ew4]; exact put_far hb23 (by omega)
  have hb34 : w4.heap[b2 + 1]? = some (.cells #[.slice a1 n1 c1, .slice a2 n2 c2] 26 (0, 0)) := by rw [← ew4]; exact heap_set hb33 _
  have hO4 : Off (· = rb) w w4 := by rw [← ew4]; exact (HO2.out.trans hO3).put (by have := EB2.out; omega) _ _
  have hR4 : RdD w4 rb o2 := by rw [← ew4]; exact hR3.put (by have := HRL.out; omega) _
  have hlo : b2 + 2 ≤ w2.heap.size := by
    have h1 := (Array.getElem?_eq_some_iff.1 HB32.out).1
    omega
  have hV1 : OwnI w4 b2 (.slice a1 n1 c1) xs := by rw [← ew4]; exact ((HV1.out.off hO3 (fun b hb => by have := HRL.out; simp; omega)).put hb33 (by decide)).down (by omega)
  have hV2 : OwnI w4 b2 (.slice a2 n2 c2) ys := by rw [← ew4]; exact (hv2.put hb33 (by decide)).down (by omega)
  obtain ⟨w5, ew5⟩ : ∃ w5, (w4.setCell ⟨b2, 0, none⟩ (.slice a1 n1 c1)).setCell ⟨b2, 1, none⟩ (.slice a2 n2 c2) = w5 := ⟨_, rfl⟩
  have h1 := heap_set (o := 0) hb24 (.slice a1 n1 c1)
  have hb25 := heap_set (o := 1) h1 (.slice a2 n2 c2)
  have HFIN := Lib.hid (show Off (· = rb) w w5 ∧ OwnI w5 w.heap.size (.slice a1 n1 c1) xs ∧ OwnI w5 w.heap.size (.slice a2 n2 c2) ys ∧ Step proofC.par o (xs, ys) o2 ∧ RdD w5 rb o2 from by
    rw [← ew5, EB2.out]
    have e2 := EB2.out
    have e3 := HRL.out
    exact ⟨(hO4.put (by omega) _ _).put (by omega) _ _, (hV1.put hb24 (by decide)).put h1 (by decide), (hV2.put hb24 (by decide)).put h1 (by decide), HS1.out.pair hs2, (hR4.put (by omega) _).put (by omega) _⟩)
  rw [ew5] at hb25
  have p0 : w5.cell? ⟨b2, 0, none⟩ = some (.slice a1 n1 c1) := by rw [cell_at hb25]; rfl
  have p1 : w5.cell? ⟨b2, 1, none⟩ = some (.slice a2 n2 c2) := by rw [cell_at hb25]; rfl
  have g0 : w4.cell? ⟨b2 + 1, 0, none⟩ = some (.slice a1 n1 c1) := by rw [cell_at hb34]; rfl
  have g1 : w4.cell? ⟨b2 + 1, 1, none⟩ = some (.slice a2 n2 c2) := by rw [cell_at hb34]; rfl
  have q0 : w4.cell? ⟨b2, 0, none⟩ = some (.slice none 0 0) := by rw [cell_at hb24]; rfl
  have q1 : w4.cell? ⟨b2, 1, none⟩ = some (.slice none 0 0) := by rw [cell_at hb24]; rfl
  have f0 : w4.frozen? ⟨b2, 0, none⟩ = false := free_at hb24
  have f1 : w4.frozen? ⟨b2, 1, none⟩ = false := free_at hb24
  have EW4 := Lib.hid ew4
  have EW5 := Lib.hid ew5
  clear ew4 ew5 hb23 hb33 hb24 hb34 hO4 hR4 hV1 hV2 h1 hb25 hO3 hv2 hs2 hR3 hlo
  go_upto_region 4 with fail
  rw [EW4.out]
  clear c1' f1'
  go_wp2_with fail
  rw [EW5.out]
  refine bodyPost_ret (by simp [results, Try.results55, go_sem, p0, p1]; try rfl) rfl ?_
  exact ⟨HFIN.out.1, a1, n1, c1, a2, n2, c2, (xs, ys), o2, HFIN.out.2.1, HFIN.out.2.2.1, rfl, HFIN.out.2.2.2.1, HFIN.out.2.2.2.2⟩
set_option maxHeartbeats 1600000 in
theorem dbox_any (rb : Nat) (o : Option Bs) (w : World) (h : RdD w rb o) :
    Calls Try.prog 54 #[.pointer (some ⟨rb, 0, none⟩)] w fun z w' =>
      Off (· = rb) w w' ∧ ∃ x0 x1 x2 x3 x4 x5 o1, z = .returned (.agg #[.int .u64 x0, .int .u64 x1, .int .u64 x2, .int .u64 x3, .int .u64 x4, .int .u64 x5]) ∧ Step boxC.par o [x0, x1, x2, x3, x4, x5] o1 ∧ RdD w' rb o1 := by
  obtain ⟨b2, eb2⟩ : ∃ b2, w.heap.size = b2 := ⟨_, rfl⟩
  obtain ⟨w0, ew0⟩ : ∃ w0, (w.alloc (.cells #[.int .u64 0, .int .u64 0, .int .u64 0, .int .u64 0, .int .u64 0, .int .u64 0] 37)).alloc (.cells #[.int .u64 0, .int .u64 0, .int .u64 0, .int .u64 0, .int .u64 0, .int .u64 0] 37) = w0 := ⟨_, rfl⟩
  have hsz : (w.alloc (.cells #[.int .u64 0, .int .u64 0, .int .u64 0, .int .u64 0, .int .u64 0, .int .u64 0] 37)).heap.size = b2 + 1 := by rw [← eb2]; simp
  have HRL := Lib.hid (show rb < b2 by rw [← eb2]; exact h.lt)
  have hS0 : Same w w0 := by rw [← ew0]; exact ((Same.refl w).alloc _).alloc _
  have HB2 := Lib.hid (show w0.heap[b2]? = some (.cells #[.int .u64 0, .int .u64 0, .int .u64 0, .int .u64 0, .int .u64 0, .int .u64 0] 37 (0, 0)) by rw [← ew0, ← eb2]; exact ((Same.refl _).alloc _).keep (heap_new _ _))
  have HB3 := Lib.hid (show w0.heap[b2 + 1]? = some (.cells (padV [] 6) 37 (0, 0)) by rw [← ew0, ← hsz]; exact heap_new _ _)
  have HR0 := Lib.hid (h.same hS0)
  have HO0 := Lib.hid (show Off (· = rb) w w0 from Off.of_same hS0)
  have EW0 := Lib.hid ew0
  have EB2 := Lib.hid eb2
  clear h hS0 ew0 eb2 hsz
  go_enter Try.func54, Try.ntmps54
  go_upto_region 2 with fail
  rw [EW0.out, EB2.out]
  go_wp2_with fail
  go_loopw [4] (fun s4 wr => ∃ i : Nat, s4 = .int .i64 i ∧ i ≤ 3 ∧ Hid (∃ xs o2, xs.length = 2 * i ∧ Loop numC o 6 (2 * i) xs o2 ∧ wr.heap[b2 + 1]? = some (.cells (padV xs 6) 37 (0, 0)) ∧ wr.heap[b2]? = some (.cells #[.int .u64 0, .int .u64 0, .int .u64 0, .int .u64 0, .int .u64 0, .int .u64 0] 37 (0, 0)) ∧ RdD wr rb o2 ∧ Off (· = rb) w wr)) (fun s4 _ => 3 - (intOf s4).toNat)
  case atStart => exact ⟨0, rfl, by omega, Lib.hid ⟨[], o, rfl, Loop.start _ _ _, HB3.out, HB2.out, HR0.out, HO0.out⟩⟩
  case round =>
    obtain ⟨i, rfl, hi, hI⟩ := hrel
    obtain ⟨xs, o2, hlen, hlp, hb3, hb2, hR, hO⟩ := hI.out
    have HLX := Lib.hid hlen
    have HLP := Lib.hid hlp
    have HB3 := Lib.hid hb3
    have HB2 := Lib.hid hb2
    have HR := Lib.hid hR
    have HO := Lib.hid hO
    clear hI hlen hlp hb3 hb2 hR hO
    by_cases hlt : i < 3
    · have hi0 : (0 : Int) ≤ i := by omega
      have hi1 : (i : Int) < 3 := by omega
      go_wp2_with fail
      refine (dnum_any rb o2 _ HR.out).mono ?_
      rintro e w3 ⟨hO3, x, o3, hux, rfl, hst3, hR3⟩
      have hb33 := hO3.keep (b := b2 + 1) (by have := HRL.out; omega) HB3.out
      have c3 : w3.cell? ⟨b2 + 1, i * 2, none⟩ = some (.int .u64 0) := by rw [cell_at hb33]; exact padV_at (by rw [HLX.out]; omega) (by omega)
      have f3 : w3.frozen? ⟨b2 + 1, i * 2, none⟩ = false := free_at hb33
      obtain ⟨w4, ew4⟩ : ∃ w4, w3.setCell ⟨b2 + 1, i * 2, none⟩ (.int .u64 x) = w4 := ⟨_, rfl⟩
      have HB4 := Lib.hid (show w4.heap[b2 + 1]? = some (.cells (padV (xs ++ [x]) 6) 37 (0, 0)) by
        rw [← ew4, heap_set hb33, ← padV_set (by rw [HLX.out]; omega), HLX.out, show 2 * i = i * 2 by omega])
      have HB24 := Lib.hid (show w4.heap[b2]? = some (.cells #[.int .u64 0, .int .u64 0, .int .u64 0, .int .u64 0, .int .u64 0, .int .u64 0] 37 (0, 0)) by rw [← ew4]; exact put_far (hO3.keep (b := b2) (by have := HRL.out; omega) HB2.out) (by omega))
      have HR4 := Lib.hid (show RdD w4 rb o3 by rw [← ew4]; exact hR3.put (by have := HRL.out; omega) _)
      have HO4 := Lib.hid (show Off (· = rb) w w4 by rw [← ew4]; exact (HO.out.trans hO3).put (by have := EB2.out; omega) _ _)
      have HLP4 := Lib.hid (HLP.out.next (by omega) hst3)
      have EW4 := Lib.hid ew4
      clear hb33 ew4 hO3 hR3 hst3 hux
      go_upto_region 6 with fail
      rw [EW4.out]
      clear c3 f3
      go_wp2_with fail
      refine (dnum_any rb o3 _ HR4.out).mono ?_
      rintro e w5 ⟨hO5, y, o5, huy, rfl, hst5, hR5⟩
      have hb5 := hO5.keep (b := b2 + 1) (by have := HRL.out; omega) HB4.out
      have c5 : w5.cell? ⟨b2 + 1, i * 2 + 1, none⟩ = some (.int .u64 0) := by rw [cell_at hb5]; exact padV_at (by rw [List.length_append, HLX.out]; simp; omega) (by omega)
      have f5 : w5.frozen? ⟨b2 + 1, i * 2 + 1, none⟩ = false := free_at hb5
      obtain ⟨w6, ew6⟩ : ∃ w6, w5.setCell ⟨b2 + 1, i * 2 + 1, none⟩ (.int .u64 y) = w6 := ⟨_, rfl⟩
      have hlen2 : (xs ++ [x]).length = i * 2 + 1 := by rw [List.length_append, HLX.out]; simp; omega
      have HFIN := Lib.hid (show ∃ xs o2, xs.length = 2 * (i + 1) ∧ Loop numC o 6 (2 * (i + 1)) xs o2 ∧ w6.heap[b2 + 1]? = some (.cells (padV xs 6) 37 (0, 0)) ∧ w6.heap[b2]? = some (.cells #[.int .u64 0, .int .u64 0, .int .u64 0, .int .u64 0, .int .u64 0, .int .u64 0] 37 (0, 0)) ∧ RdD w6 rb o2 ∧ Off (· = rb) w w6 from by
        rw [← ew6]
        have e1 := HRL.out
        have e2 := EB2.out
        refine ⟨(xs ++ [x]) ++ [y], o5, by rw [List.length_append, hlen2]; simp; omega, HLP4.out.next (by omega) hst5, ?_, put_far (hO5.keep (b := b2) (by omega) HB24.out) (by omega), hR5.put (by omega) _, (HO4.out.trans hO5).put (by omega) _ _⟩
        have hpv := padV_set (xs := xs ++ [x]) (k := 6) (by omega) y
        rw [hlen2] at hpv
        rw [heap_set hb5, hpv])
      have EW6 := Lib.hid ew6
      clear hb5 ew6 hO5 hR5 hst5 huy hlen2
      go_upto_region 4 with fail
      rw [EW6.out]
      clear c5 f5
      go_wp2_with fail
      go_roundw
      case rel => exact ⟨i + 1, by go_num, by omega, HFIN⟩
      case measure => simp [intOf]; omega
    · obtain rfl : i = 3 := by omega
      obtain ⟨x0, x1, x2, x3, x4, x5, rfl⟩ := six HLX.out
      have HST := Lib.hid (show Step boxC.par o [x0, x1, x2, x3, x4, x5] o2 from Loop.fixed HLP.out)
      have hb3 : wr.heap[b2 + 1]? = some (.cells #[.int .u64 x0, .int .u64 x1, .int .u64 x2, .int .u64 x3, .int .u64 x4, .int .u64 x5] 37 (0, 0)) := HB3.out
      have g0 : wr.cell? ⟨b2 + 1, 0, none⟩ = some (.int .u64 x0) := by rw [cell_at hb3]; rfl
      have g1 : wr.cell? ⟨b2 + 1, 1, none⟩ = some (.int .u64 x1) := by rw [cell_at hb3]; rfl
      have g2 : wr.cell? ⟨b2 + 1, 2, none⟩ = some (.int .u64 x2) := by rw [cell_at hb3]; rfl
      have g3 : wr.cell? ⟨b2 + 1, 3, none⟩ = some (.int .u64 x3) := by rw [cell_at hb3]; rfl
      have g4 : wr.cell? ⟨b2 + 1, 4, none⟩ = some (.int .u64 x4) := by rw [cell_at hb3]; rfl
      have g5 : wr.cell? ⟨b2 + 1, 5, none⟩ = some (.int .u64 x5) := by rw [cell_at hb3]; rfl
      have q0 : wr.cell? ⟨b2, 0, none⟩ = some (.int .u64 0) := by rw [cell_at HB2.out]; rfl
      have f0 : wr.frozen? ⟨b2, 0, none⟩ = false := free_at HB2.out
      have q1 : wr.cell? ⟨b2, 1, none⟩ = some (.int .u64 0) := by rw [cell_at HB2.out]; rfl
      have f1 : wr.frozen? ⟨b2, 1, none⟩ = false := free_at HB2.out
      have q2 : wr.cell? ⟨b2, 2, none⟩ = some (.int .u64 0) := by rw [cell_at HB2.out]; rfl
      have f2 : wr.frozen? ⟨b2, 2, none⟩ = false := free_at HB2.out
      have q3 : wr.cell? ⟨b2, 3, none⟩ = some (.int .u64 0) := by rw [cell_at HB2.out]; rfl
      have f3 : wr.frozen? ⟨b2, 3, none⟩ = false := free_at HB2.out
      have q4 : wr.cell? ⟨b2, 4, none⟩ = some (.int .u64 0) := by rw [cell_at HB2.out]; rfl
      have f4 : wr.frozen? ⟨b2, 4, none⟩ = false := free_at HB2.out
      have q5 : wr.cell? ⟨b2, 5, none⟩ = some (.int .u64 0) := by rw [cell_at HB2.out]; rfl
      have f5 : wr.frozen? ⟨b2, 5, none⟩ = false := free_at HB2.out
      obtain ⟨w5, ew5⟩ : ∃ w5, set6 wr b2 (.int .u64 x0) (.int .u64 x1) (.int .u64 x2) (.int .u64 x3) (.int .u64 x4) (.int .u64 x5) = w5 := ⟨_, rfl⟩
      have hs6 := set_six HB2.out (.int .u64 x0) (.int .u64 x1) (.int .u64 x2) (.int .u64 x3) (.int .u64 x4) (.int .u64 x5)
      have HFIN := Lib.hid (show Off (· = rb) w w5 ∧ RdD w5 rb o2 by
        rw [← ew5]
        exact ⟨HO.out.put6 (by have := EB2.out; omega) _ _ _ _ _ _, HR.out.far (hs6.2 rb (by have := HRL.out; omega))⟩)
      rw [ew5] at hs6
      have p0 : w5.cell? ⟨b2, 0, none⟩ = some (.int .u64 x0) := by rw [cell_at hs6.1]; rfl
      have p1 : w5.cell? ⟨b2, 1, none⟩ = some (.int .u64 x1) := by rw [cell_at hs6.1]; rfl
      have p2 : w5.cell? ⟨b2, 2, none⟩ = some (.int .u64 x2) := by rw [cell_at hs6.1]; rfl
      have p3 : w5.cell? ⟨b2, 3, none⟩ = some (.int .u64 x3) := by rw [cell_at hs6.1]; rfl
      have p4 : w5.cell? ⟨b2, 4, none⟩ = some (.int .u64 x4) := by rw [cell_at hs6.1]; rfl
      have p5 : w5.cell? ⟨b2, 5, none⟩ = some (.int .u64 x5) := by rw [cell_at hs6.1]; rfl
      have EW5 := Lib.hid ew5
      clear ew5 hs6 hb3
      go_wp2_with fail
      rw [show ((((((wr.setCell ⟨b2, 0, none⟩ (.int .u64 x0)).setCell ⟨b2, 1, none⟩ (.int .u64 x1)).setCell ⟨b2, 2, none⟩ (.int .u64 x2)).setCell ⟨b2, 3, none⟩ (.int .u64 x3)).setCell ⟨b2, 4, none⟩ (.int .u64 x4)).setCell ⟨b2, 5, none⟩ (.int .u64 x5)) = w5 from EW5.out]
      refine bodyPost_ret (by simp [results, Try.results54, go_sem, p0, p1, p2, p3, p4, p5]; try rfl) rfl ?_
      exact ⟨HFIN.out.1, x0, x1, x2, x3, x4, x5, o2, rfl, HST.out, HFIN.out.2⟩
end Go.Proofs.Ytdbhcdhenapfoaa
