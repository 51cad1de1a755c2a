/- Layer 10: the document's bytes of what is passed. -/
import Derived.Test.YtdbhcdhenapfoaaWireG
import Derived.Test.YtdbhcdhenapfoaaRefW
set_option linter.unusedVariables false
set_option linter.unusedSimpArgs false
namespace Go.Proofs.Ytdbhcdhenapfoaa
open Go.RowKit Go.Maps
set_option maxRecDepth 20000 in
set_option maxHeartbeats 6400000 in
theorem rPassed_any (a : Option Addr) (n c : Nat) (ls : List PassD) (w : World) (hx : PassAt w a n ls) :
    Calls Try.prog 21 #[.slice a n c] w fun z w' =>
      Same w w' ∧ ((passlC.ok ls ∧ z = .returned (.tuple #[.string (ofL (3 :: passlC.enc ls)), .bool true])) ∨ (¬ passlC.ok ls ∧ z = .returned (.tuple #[.string { data := #[] }, .bool false]))) := by
  have HI := Lib.hid hx
  have HNL := Lib.hid (show ls.length = n from hx.len)
  clear hx
  go_enter Try.func21, Try.ntmps21
  by_cases hb : n ≤ 8
  case neg =>
    have d0 : decide ((n : Int) > 8) = true := decide_eq_true (by omega)
    have HNO := Lib.hid (show ¬ passlC.ok ls from fun h => by have h1 := h.1.1; have h2 := HNL.out; omega)
    go_wp2_with fail
    go_ret2
    exact ⟨Same.refl _, Or.inr ⟨HNO.out, rfl⟩⟩
  have d0 : decide ((n : Int) > 8) = false := decide_eq_false (by omega)
  go_wp2_with fail
  refine (rcount_s n (by omega) w).mono ?_
  rintro e w1 ⟨rfl, hs1⟩
  have HS1 := Lib.hid hs1
  obtain ⟨C, eC⟩ : ∃ C, ofL (encC n) = C := ⟨_, rfl⟩
  have hsc : C.size = 2 := by rw [← eC, size_ofL]; rfl
  have hcc : ¬ (1 + C.size > 9223372036854775807) := by omega
  have HA := Lib.hid (show ({ data := #[3] } : ByteArray) ++ C = ofL (3 :: encC n) by rw [← eC, show ({ data := #[3] } : ByteArray) = ofL [3] from rfl, append_ofL]; rfl)
  rw [eC]
  have hn0 : (0 : Int) ≤ n := by omega
  clear hs1 eC d0
  go_wp2_with fail
  go_loopw [4, 5] (fun s4 s5 wr => ∃ i : Nat, s5 = .int .i64 i ∧ i ≤ n ∧ s4 = .string (ofL (3 :: encC n ++ (ls.take i).flatMap passC.enc)) ∧ Hid (Same w1 wr ∧ ∀ x ∈ ls.take i, passC.ok x)) (fun _ s5 _ => n - (intOf s5).toNat)
  case atStart => exact ⟨0, rfl, by omega, by rw [HA.out]; simp, Lib.hid ⟨Same.refl _, by simp⟩⟩
  case round =>
    obtain ⟨i, rfl, hi', rfl, hH⟩ := hrel
    obtain ⟨wo, rfl⟩ : ∃ wz, wz = wr := ⟨_, rfl⟩
    clear hsc hcc
    have HSo := Lib.hid (HS1.out.trans hH.out.1)
    obtain ⟨l1, el1⟩ : ∃ l1, 3 :: encC n ++ (ls.take i).flatMap passC.enc = l1 := ⟨_, rfl⟩
    have hl1 : l1.length ≤ 30000 := by
      have h1 := flat_le (f := passC.enc) (K := 3156) (ls.take i) (fun x hx => pass_len (hH.out.2 x hx))
      rw [List.length_take] at h1
      rw [← el1, List.length_append]
      have h2 : ((3 : UInt8) :: encC n).length = 3 := rfl
      omega
    have EL1 := Lib.hid el1
    rw [el1]
    clear el1
    by_cases hlt : i < n
    · have hi0 : (0 : Int) ≤ i := by omega
      have hi1 : (i : Int) < n := by omega
      obtain ⟨bk, off, x0, x1, x2, x3, x4, x5, x6, x7, x8, p0, m0, d0, p1, m1, d1, p2, m2, d2, p3, m3, d3, p4, m4, d4, p5, m5, d5, q0, q1, q2, rfl, e2, hu, hc, i0, i1, i2, i3, i4, i5⟩ := (HI.out.same HSo.out).it i hlt
      have HCL := Lib.hid hc
      have HU := Lib.hid hu
      have I0 := Lib.hid i0
      have I1 := Lib.hid i1
      have I2 := Lib.hid i2
      have I3 := Lib.hid i3
      have I4 := Lib.hid i4
      have I5 := Lib.hid i5
      have HMEM := Lib.hid (getD_mem (d := (([], []) : PassD)) (show i < ls.length by have := HNL.out; omega))
      have HTK := Lib.hid (take_flat passC.enc ls i ([], []) (show i < ls.length by have := HNL.out; omega))
      have HOKN := Lib.hid (fun k => take_ok (ok := passC.ok) (d := (([], []) : PassD)) (show i < ls.length by have := HNL.out; omega) hH.out.2 k)
      rw [e2] at HMEM HTK HOKN
      have HW1 := Lib.hid hH.out.1
      clear hu hc e2 hH i0 i1 i2 i3 i4 i5
      go_wp2_with fail
      go_loopw [4, 6] (fun s4 s6 wr => ∃ j : Nat, s6 = .int .i64 j ∧ j ≤ 3 ∧ s4 = .string (ofL (l1 ++ ([x0, x1, x2, x3, x4, x5, x6, x7, x8].take (3 * j)).flatMap encN)) ∧ Hid (Same wo wr)) (fun _ s6 _ => 3 - (intOf s6).toNat)
      case atStart => exact ⟨0, rfl, by omega, by simp, Lib.hid (Same.refl _)⟩
      case round =>
        obtain ⟨j, rfl, hj', rfl, hD⟩ := hrel
        obtain ⟨wr, rfl⟩ : ∃ wz, wz = wr := ⟨_, rfl⟩
        have hcase : j = 0 ∨ j = 1 ∨ j = 2 ∨ j = 3 := by omega
        clear hj'
        rcases hcase with rfl | rfl | rfl | rfl
        · rw [show ((0 : Nat) : Int) = 0 from rfl]
          have g0 : wr.cell? ⟨bk, off + i * 15, none⟩ = some (.int .u64 x0) := same_cell hD.out (HCL.out 0 (by omega))
          have g1 : wr.cell? ⟨bk, off + i * 15 + 1, none⟩ = some (.int .u64 x1) := same_cell hD.out (HCL.out 1 (by omega))
          have g2 : wr.cell? ⟨bk, off + i * 15 + 2, none⟩ = some (.int .u64 x2) := same_cell hD.out (HCL.out 2 (by omega))
          obtain ⟨wt, ewt⟩ : ∃ wt, wr.alloc (.cells #[.int .u64 x0, .int .u64 x1, .int .u64 x2] 58) = wt := ⟨_, rfl⟩
          obtain ⟨tb, etb⟩ : ∃ tb, wr.heap.size = tb := ⟨_, rfl⟩
          have hSt : Same wr wt := by rw [← ewt]; exact (Same.refl wr).alloc _
          have htb : wt.heap[tb]? = some (.cells #[.int .u64 x0, .int .u64 x1, .int .u64 x2] 58 (0, 0)) := by rw [← ewt, ← etb]; exact heap_new _ _
          have k0 : wt.cell? ⟨tb, 0, none⟩ = some (.int .u64 x0) := by rw [cell_at htb]; rfl
          have k1 : wt.cell? ⟨tb, 1, none⟩ = some (.int .u64 x1) := by rw [cell_at htb]; rfl
          have k2 : wt.cell? ⟨tb, 2, none⟩ = some (.int .u64 x2) := by rw [cell_at htb]; rfl
          obtain ⟨wq, ewq⟩ : ∃ wq, wt.alloc (.cells #[.int .u64 x0, .int .u64 x1, .int .u64 x2] 33) = wq := ⟨_, rfl⟩
          obtain ⟨qb, eqb⟩ : ∃ qb, wt.heap.size = qb := ⟨_, rfl⟩
          have hSq : Same wt wq := by rw [← ewq]; exact (Same.refl wt).alloc _
          have hqb : wq.heap[qb]? = some (.cells (vals [x0, x1, x2]).toArray 33 (0, 0)) := by rw [← ewq, ← eqb]; exact heap_new _ _
          have HD := Lib.hid (hD.out.trans (hSt.trans hSq))
          have HIN := Lib.hid (ints_at (xs := [x0, x1, x2]) hqb (by intro x hx; simp at hx; rcases hx with rfl | rfl | rfl; exact HU.out _ (by simp); exact HU.out _ (by simp); exact HU.out _ (by simp)) (by simp))
          have EWT := Lib.hid ewt
          have ETB := Lib.hid etb
          have EWQ := Lib.hid ewq
          have EQB := Lib.hid eqb
          obtain ⟨A, eA⟩ : ∃ A, ofL (l1 ++ ([x0, x1, x2, x3, x4, x5, x6, x7, x8].take (3 * 0)).flatMap encN) = A := ⟨_, rfl⟩
          obtain ⟨B, eB⟩ : ∃ B, ofL ([x0, x1, x2].flatMap encN) = B := ⟨_, rfl⟩
          have hA : A.size ≤ 31000 := by rw [← eA, size_ofL, List.length_append, flat_len]; simp; omega
          have hB : B.size ≤ 100 := by rw [← eB, size_ofL, flat_len]; simp
          have hcat : ¬ (A.size + B.size > 9223372036854775807) := by omega
          have HA := Lib.hid (show A ++ B = ofL (l1 ++ ([x0, x1, x2, x3, x4, x5, x6, x7, x8].take (3 * (0 + 1))).flatMap encN) by rw [← eA, ← eB, append_ofL, List.append_assoc, ← List.flatMap_append]; rfl)
          have EB2 := Lib.hid eB
          rw [eA]
          clear hD ewt etb ewq eqb hSt hSq htb hqb eA eB hA hB
          go_upto_region 11 with fail
          rw [EWT.out, ETB.out]
          clear g0 g1 g2
          go_wp2_with fail
          rw [EWQ.out, EQB.out]
          refine (rnums_any (some ⟨qb, 0, none⟩) 3 3 [x0, x1, x2] (by omega) wq HIN.out).mono ?_
          rintro e w5 ⟨rfl, hs5⟩
          rw [EB2.out]
          have HD5 := Lib.hid (HD.out.trans hs5)
          clear hs5 k0 k1 k2
          go_wp2_with fail
          go_roundw
          case rel => exact ⟨0 + 1, by go_num, by omega, by rw [HA.out], HD5⟩
          case measure => simp [intOf]
        · rw [show ((1 : Nat) : Int) = 1 from rfl]
          have g0 : wr.cell? ⟨bk, off + i * 15 + 3, none⟩ = some (.int .u64 x3) := same_cell hD.out (HCL.out 3 (by omega))
          have g1 : wr.cell? ⟨bk, off + i * 15 + 4, none⟩ = some (.int .u64 x4) := same_cell hD.out (HCL.out 4 (by omega))
          have g2 : wr.cell? ⟨bk, off + i * 15 + 5, none⟩ = some (.int .u64 x5) := same_cell hD.out (HCL.out 5 (by omega))
          obtain ⟨wt, ewt⟩ : ∃ wt, wr.alloc (.cells #[.int .u64 x3, .int .u64 x4, .int .u64 x5] 58) = wt := ⟨_, rfl⟩
          obtain ⟨tb, etb⟩ : ∃ tb, wr.heap.size = tb := ⟨_, rfl⟩
          have hSt : Same wr wt := by rw [← ewt]; exact (Same.refl wr).alloc _
          have htb : wt.heap[tb]? = some (.cells #[.int .u64 x3, .int .u64 x4, .int .u64 x5] 58 (0, 0)) := by rw [← ewt, ← etb]; exact heap_new _ _
          have k0 : wt.cell? ⟨tb, 0, none⟩ = some (.int .u64 x3) := by rw [cell_at htb]; rfl
          have k1 : wt.cell? ⟨tb, 1, none⟩ = some (.int .u64 x4) := by rw [cell_at htb]; rfl
          have k2 : wt.cell? ⟨tb, 2, none⟩ = some (.int .u64 x5) := by rw [cell_at htb]; rfl
          obtain ⟨wq, ewq⟩ : ∃ wq, wt.alloc (.cells #[.int .u64 x3, .int .u64 x4, .int .u64 x5] 33) = wq := ⟨_, rfl⟩
          obtain ⟨qb, eqb⟩ : ∃ qb, wt.heap.size = qb := ⟨_, rfl⟩
          have hSq : Same wt wq := by rw [← ewq]; exact (Same.refl wt).alloc _
          have hqb : wq.heap[qb]? = some (.cells (vals [x3, x4, x5]).toArray 33 (0, 0)) := by rw [← ewq, ← eqb]; exact heap_new _ _
          have HD := Lib.hid (hD.out.trans (hSt.trans hSq))
          have HIN := Lib.hid (ints_at (xs := [x3, x4, x5]) hqb (by intro x hx; simp at hx; rcases hx with rfl | rfl | rfl; exact HU.out _ (by simp); exact HU.out _ (by simp); exact HU.out _ (by simp)) (by simp))
          have EWT := Lib.hid ewt
          have ETB := Lib.hid etb
          have EWQ := Lib.hid ewq
          have EQB := Lib.hid eqb
          obtain ⟨A, eA⟩ : ∃ A, ofL (l1 ++ ([x0, x1, x2, x3, x4, x5, x6, x7, x8].take (3 * 1)).flatMap encN) = A := ⟨_, rfl⟩
          obtain ⟨B, eB⟩ : ∃ B, ofL ([x3, x4, x5].flatMap encN) = B := ⟨_, rfl⟩
          have hA : A.size ≤ 31000 := by rw [← eA, size_ofL, List.length_append, flat_len]; simp; omega
          have hB : B.size ≤ 100 := by rw [← eB, size_ofL, flat_len]; simp
          have hcat : ¬ (A.size + B.size > 9223372036854775807) := by omega
          have HA := Lib.hid (show A ++ B = ofL (l1 ++ ([x0, x1, x2, x3, x4, x5, x6, x7, x8].take (3 * (1 + 1))).flatMap encN) by rw [← eA, ← eB, append_ofL, List.append_assoc, ← List.flatMap_append]; rfl)
          have EB2 := Lib.hid eB
          rw [eA]
          clear hD ewt etb ewq eqb hSt hSq htb hqb eA eB hA hB
          go_upto_region 11 with fail
          rw [EWT.out, ETB.out]
          clear g0 g1 g2
          go_wp2_with fail
          rw [EWQ.out, EQB.out]
          refine (rnums_any (some ⟨qb, 0, none⟩) 3 3 [x3, x4, x5] (by omega) wq HIN.out).mono ?_
          rintro e w5 ⟨rfl, hs5⟩
          rw [EB2.out]
          have HD5 := Lib.hid (HD.out.trans hs5)
          clear hs5 k0 k1 k2
          go_wp2_with fail
          go_roundw
          case rel => exact ⟨1 + 1, by go_num, by omega, by rw [HA.out], HD5⟩
          case measure => simp [intOf]
        · rw [show ((2 : Nat) : Int) = 2 from rfl]
          have g0 : wr.cell? ⟨bk, off + i * 15 + 6, none⟩ = some (.int .u64 x6) := same_cell hD.out (HCL.out 6 (by omega))
          have g1 : wr.cell? ⟨bk, off + i * 15 + 7, none⟩ = some (.int .u64 x7) := same_cell hD.out (HCL.out 7 (by omega))
          have g2 : wr.cell? ⟨bk, off + i * 15 + 8, none⟩ = some (.int .u64 x8) := same_cell hD.out (HCL.out 8 (by omega))
          obtain ⟨wt, ewt⟩ : ∃ wt, wr.alloc (.cells #[.int .u64 x6, .int .u64 x7, .int .u64 x8] 58) = wt := ⟨_, rfl⟩
          obtain ⟨tb, etb⟩ : ∃ tb, wr.heap.size = tb := ⟨_, rfl⟩
          have hSt : Same wr wt := by rw [← ewt]; exact (Same.refl wr).alloc _
          have htb : wt.heap[tb]? = some (.cells #[.int .u64 x6, .int .u64 x7, .int .u64 x8] 58 (0, 0)) := by rw [← ewt, ← etb]; exact heap_new _ _
          have k0 : wt.cell? ⟨tb, 0, none⟩ = some (.int .u64 x6) := by rw [cell_at htb]; rfl
          have k1 : wt.cell? ⟨tb, 1, none⟩ = some (.int .u64 x7) := by rw [cell_at htb]; rfl
          have k2 : wt.cell? ⟨tb, 2, none⟩ = some (.int .u64 x8) := by rw [cell_at htb]; rfl
          obtain ⟨wq, ewq⟩ : ∃ wq, wt.alloc (.cells #[.int .u64 x6, .int .u64 x7, .int .u64 x8] 33) = wq := ⟨_, rfl⟩
          obtain ⟨qb, eqb⟩ : ∃ qb, wt.heap.size = qb := ⟨_, rfl⟩
          have hSq : Same wt wq := by rw [← ewq]; exact (Same.refl wt).alloc _
          have hqb : wq.heap[qb]? = some (.cells (vals [x6, x7, x8]).toArray 33 (0, 0)) := by rw [← ewq, ← eqb]; exact heap_new _ _
          have HD := Lib.hid (hD.out.trans (hSt.trans hSq))
          have HIN := Lib.hid (ints_at (xs := [x6, x7, x8]) hqb (by intro x hx; simp at hx; rcases hx with rfl | rfl | rfl; exact HU.out _ (by simp); exact HU.out _ (by simp); exact HU.out _ (by simp)) (by simp))
          have EWT := Lib.hid ewt
          have ETB := Lib.hid etb
          have EWQ := Lib.hid ewq
          have EQB := Lib.hid eqb
          obtain ⟨A, eA⟩ : ∃ A, ofL (l1 ++ ([x0, x1, x2, x3, x4, x5, x6, x7, x8].take (3 * 2)).flatMap encN) = A := ⟨_, rfl⟩
          obtain ⟨B, eB⟩ : ∃ B, ofL ([x6, x7, x8].flatMap encN) = B := ⟨_, rfl⟩
          have hA : A.size ≤ 31000 := by rw [← eA, size_ofL, List.length_append, flat_len]; simp; omega
          have hB : B.size ≤ 100 := by rw [← eB, size_ofL, flat_len]; simp
          have hcat : ¬ (A.size + B.size > 9223372036854775807) := by omega
          have HA := Lib.hid (show A ++ B = ofL (l1 ++ ([x0, x1, x2, x3, x4, x5, x6, x7, x8].take (3 * (2 + 1))).flatMap encN) by rw [← eA, ← eB, append_ofL, List.append_assoc, ← List.flatMap_append]; rfl)
          have EB2 := Lib.hid eB
          rw [eA]
          clear hD ewt etb ewq eqb hSt hSq htb hqb eA eB hA hB
          go_upto_region 11 with fail
          rw [EWT.out, ETB.out]
          clear g0 g1 g2
          go_wp2_with fail
          rw [EWQ.out, EQB.out]
          refine (rnums_any (some ⟨qb, 0, none⟩) 3 3 [x6, x7, x8] (by omega) wq HIN.out).mono ?_
          rintro e w5 ⟨rfl, hs5⟩
          rw [EB2.out]
          have HD5 := Lib.hid (HD.out.trans hs5)
          clear hs5 k0 k1 k2
          go_wp2_with fail
          go_roundw
          case rel => exact ⟨2 + 1, by go_num, by omega, by rw [HA.out], HD5⟩
          case measure => simp [intOf]
        · rw [show ((3 : Nat) : Int) = 3 from rfl]
          obtain ⟨l2, el2⟩ : ∃ l2, l1 ++ [x0, x1, x2, x3, x4, x5, x6, x7, x8].flatMap encN = l2 := ⟨_, rfl⟩
          have hl2 : l2.length ≤ 40000 := by rw [← el2, List.length_append, flat_len]; simp; omega
          have EL2 := Lib.hid el2
          rw [show [x0, x1, x2, x3, x4, x5, x6, x7, x8].take (3 * 3) = [x0, x1, x2, x3, x4, x5, x6, x7, x8] from rfl, el2]
          clear el2
          go_wp2_with fail
          go_loopw [4, 8] (fun s4 s8 wr => ∃ j : Nat, s8 = .int .i64 j ∧ j ≤ 3 ∧ s4 = .string (ofL (l2 ++ ([q0, q1, q2].take j).flatMap proofC.enc)) ∧ Hid (Same wo wr ∧ ∀ x ∈ [q0, q1, q2].take j, proofC.ok x)) (fun _ s8 _ => 3 - (intOf s8).toNat)
          case atStart => exact ⟨0, rfl, by omega, by simp, Lib.hid ⟨hD.out, by simp⟩⟩
          case round =>
            clear hD
            obtain ⟨j, rfl, hj', rfl, hD⟩ := hrel
            obtain ⟨wr, rfl⟩ : ∃ wz, wz = wr := ⟨_, rfl⟩
            have hcase : j = 0 ∨ j = 1 ∨ j = 2 ∨ j = 3 := by omega
            obtain ⟨l3, el3⟩ : ∃ l3, l2 ++ ([q0, q1, q2].take j).flatMap proofC.enc = l3 := ⟨_, rfl⟩
            have hl3 : l3.length ≤ 50000 := by
              have h1 := flat_le (f := proofC.enc) (K := 1028) ([q0, q1, q2].take j) (fun x hx => proof_len (hD.out.2 x hx))
              have h2 : ([q0, q1, q2].take j).length ≤ 3 := by rw [List.length_take]; exact Nat.min_le_right _ _
              rw [← el3, List.length_append]
              omega
            have EL3 := Lib.hid el3
            rw [el3]
            clear hj' el3
            rcases hcase with rfl | rfl | rfl | rfl
            · rw [show ((0 : Nat) : Int) = 0 from rfl]
              have g0 : wr.cell? ⟨bk, off + i * 15 + 9, none⟩ = some (.slice p0 m0 d0) := same_cell hD.out.1 (HCL.out 9 (by omega))
              have g1 : wr.cell? ⟨bk, off + i * 15 + 10, none⟩ = some (.slice p1 m1 d1) := same_cell hD.out.1 (HCL.out 10 (by omega))
              have HD := Lib.hid hD.out.1
              have HOKS := Lib.hid hD.out.2
              clear hD
              go_wp2_with fail
              refine (rshort_any p0 m0 d0 p1 m1 d1 wr).mono ?_
              rintro e wt ⟨rfl, hst⟩
              have HDt := Lib.hid (HD.out.trans hst)
              have k0 : wt.cell? ⟨bk, off + i * 15 + 9, none⟩ = some (.slice p0 m0 d0) := same_cell hst g0
              have k1 : wt.cell? ⟨bk, off + i * 15 + 10, none⟩ = some (.slice p1 m1 d1) := same_cell hst g1
              clear hst g0 g1
              by_cases hfit : m0 ≤ 64 ∧ m1 ≤ 64
              case neg =>
                have HNO := Lib.hid (show ¬ passlC.ok ls from fun h => hfit (by
                  have h0 := (h.2 _ HMEM.out).2.2 q0 (by simp)
                  exact ⟨by have h1 := h0.1.1.1; have h2 := I0.out.len; (try simp only at h1 h2); omega, by have h1 := h0.2.1.1; have h2 := I1.out.len; (try simp only at h1 h2); omega⟩))
                have HE := Lib.hid (show (decide (m0 ≤ 64) && decide (m1 ≤ 64)) = false by simp; intro h; simp at hfit; exact hfit h)
                have HSF := Lib.hid (HSo.out.trans HDt.out)
                rw [HE.out]
                go_wp2_with fail
                go_ret2
                exact ⟨HSF.out, Or.inr ⟨HNO.out, rfl⟩⟩
              obtain ⟨h1, h2⟩ := hfit
              have HE := Lib.hid (show (decide (m0 ≤ 64) && decide (m1 ≤ 64)) = true by simp [h1, h2])
              rw [HE.out]
              have hok : proofC.ok q0 := ⟨nums_fit I0.out h1, nums_fit I1.out h2⟩
              have HOK := Lib.hid (show ∀ x ∈ [q0, q1, q2].take (0 + 1), proofC.ok x from by
                  have h1 := HOKS.out
                  intro x hx
                  simp at hx h1
                  subst hx; exact hok)
              obtain ⟨A, eA⟩ : ∃ A, ofL l3 = A := ⟨_, rfl⟩
              obtain ⟨B, eB⟩ : ∃ B, ofL (proofC.enc q0) = B := ⟨_, rfl⟩
              have hA : A.size ≤ 50000 := by rw [← eA, size_ofL]; exact hl3
              have hB : B.size ≤ 1028 := by rw [← eB, size_ofL]; exact proof_len hok
              have hcat : ¬ (A.size + B.size > 9223372036854775807) := by omega
              have HA := Lib.hid (show A ++ B = ofL (l2 ++ ([q0, q1, q2].take (0 + 1)).flatMap proofC.enc) by
                rw [← eA, ← eB, append_ofL, ← EL3.out, List.append_assoc]; simp)
              have EB2 := Lib.hid eB
              rw [eA]
              clear eA eB hA hB hok
              go_wp2_with fail
              refine (rproofs_any p0 m0 d0 p1 m1 d1 q0 h1 h2 wt (I0.out.same HDt.out) (I1.out.same HDt.out)).mono ?_
              rintro e w5 ⟨rfl, hs5⟩
              rw [EB2.out]
              have HD5 := Lib.hid (show Same wo w5 ∧ ∀ x ∈ [q0, q1, q2].take (0 + 1), proofC.ok x from ⟨HDt.out.trans hs5, HOK.out⟩)
              clear hs5 k0 k1
              go_wp2_with fail
              go_roundw
              case rel => exact ⟨0 + 1, by go_num, by omega, by rw [HA.out], HD5⟩
              case measure => simp [intOf]
            · rw [show ((1 : Nat) : Int) = 1 from rfl]
              have g0 : wr.cell? ⟨bk, off + i * 15 + 11, none⟩ = some (.slice p2 m2 d2) := same_cell hD.out.1 (HCL.out 11 (by omega))
              have g1 : wr.cell? ⟨bk, off + i * 15 + 12, none⟩ = some (.slice p3 m3 d3) := same_cell hD.out.1 (HCL.out 12 (by omega))
              have HD := Lib.hid hD.out.1
              have HOKS := Lib.hid hD.out.2
              clear hD
              go_wp2_with fail
              refine (rshort_any p2 m2 d2 p3 m3 d3 wr).mono ?_
              rintro e wt ⟨rfl, hst⟩
              have HDt := Lib.hid (HD.out.trans hst)
              have k0 : wt.cell? ⟨bk, off + i * 15 + 11, none⟩ = some (.slice p2 m2 d2) := same_cell hst g0
              have k1 : wt.cell? ⟨bk, off + i * 15 + 12, none⟩ = some (.slice p3 m3 d3) := same_cell hst g1
              clear hst g0 g1
              by_cases hfit : m2 ≤ 64 ∧ m3 ≤ 64
              case neg =>
                have HNO := Lib.hid (show ¬ passlC.ok ls from fun h => hfit (by
                  have h0 := (h.2 _ HMEM.out).2.2 q1 (by simp)
                  exact ⟨by have h1 := h0.1.1.1; have h2 := I2.out.len; (try simp only at h1 h2); omega, by have h1 := h0.2.1.1; have h2 := I3.out.len; (try simp only at h1 h2); omega⟩))
                have HE := Lib.hid (show (decide (m2 ≤ 64) && decide (m3 ≤ 64)) = false by simp; intro h; simp at hfit; exact hfit h)
                have HSF := Lib.hid (HSo.out.trans HDt.out)
                rw [HE.out]
                go_wp2_with fail
                go_ret2
                exact ⟨HSF.out, Or.inr ⟨HNO.out, rfl⟩⟩
              obtain ⟨h1, h2⟩ := hfit
              have HE := Lib.hid (show (decide (m2 ≤ 64) && decide (m3 ≤ 64)) = true by simp [h1, h2])
              rw [HE.out]
              have hok : proofC.ok q1 := ⟨nums_fit I2.out h1, nums_fit I3.out h2⟩
              have HOK := Lib.hid (show ∀ x ∈ [q0, q1, q2].take (1 + 1), proofC.ok x from by
                  have h1 := HOKS.out
                  intro x hx
                  simp at hx h1
                  rcases hx with rfl | rfl
                  · exact h1
                  · exact hok)
              obtain ⟨A, eA⟩ : ∃ A, ofL l3 = A := ⟨_, rfl⟩
              obtain ⟨B, eB⟩ : ∃ B, ofL (proofC.enc q1) = B := ⟨_, rfl⟩
              have hA : A.size ≤ 50000 := by rw [← eA, size_ofL]; exact hl3
              have hB : B.size ≤ 1028 := by rw [← eB, size_ofL]; exact proof_len hok
              have hcat : ¬ (A.size + B.size > 9223372036854775807) := by omega
              have HA := Lib.hid (show A ++ B = ofL (l2 ++ ([q0, q1, q2].take (1 + 1)).flatMap proofC.enc) by
                rw [← eA, ← eB, append_ofL, ← EL3.out, List.append_assoc]; simp)
              have EB2 := Lib.hid eB
              rw [eA]
              clear eA eB hA hB hok
              go_wp2_with fail
              refine (rproofs_any p2 m2 d2 p3 m3 d3 q1 h1 h2 wt (I2.out.same HDt.out) (I3.out.same HDt.out)).mono ?_
              rintro e w5 ⟨rfl, hs5⟩
              rw [EB2.out]
              have HD5 := Lib.hid (show Same wo w5 ∧ ∀ x ∈ [q0, q1, q2].take (1 + 1), proofC.ok x from ⟨HDt.out.trans hs5, HOK.out⟩)
              clear hs5 k0 k1
              go_wp2_with fail
              go_roundw
              case rel => exact ⟨1 + 1, by go_num, by omega, by rw [HA.out], HD5⟩
              case measure => simp [intOf]
            · rw [show ((2 : Nat) : Int) = 2 from rfl]
              have g0 : wr.cell? ⟨bk, off + i * 15 + 13, none⟩ = some (.slice p4 m4 d4) := same_cell hD.out.1 (HCL.out 13 (by omega))
              have g1 : wr.cell? ⟨bk, off + i * 15 + 14, none⟩ = some (.slice p5 m5 d5) := same_cell hD.out.1 (HCL.out 14 (by omega))
              have HD := Lib.hid hD.out.1
              have HOKS := Lib.hid hD.out.2
              clear hD
              go_wp2_with fail
              refine (rshort_any p4 m4 d4 p5 m5 d5 wr).mono ?_
              rintro e wt ⟨rfl, hst⟩
              have HDt := Lib.hid (HD.out.trans hst)
              have k0 : wt.cell? ⟨bk, off + i * 15 + 13, none⟩ = some (.slice p4 m4 d4) := same_cell hst g0
              have k1 : wt.cell? ⟨bk, off + i * 15 + 14, none⟩ = some (.slice p5 m5 d5) := same_cell hst g1
              clear hst g0 g1
              by_cases hfit : m4 ≤ 64 ∧ m5 ≤ 64
              case neg =>
                have HNO := Lib.hid (show ¬ passlC.ok ls from fun h => hfit (by
                  have h0 := (h.2 _ HMEM.out).2.2 q2 (by simp)
                  exact ⟨by have h1 := h0.1.1.1; have h2 := I4.out.len; (try simp only at h1 h2); omega, by have h1 := h0.2.1.1; have h2 := I5.out.len; (try simp only at h1 h2); omega⟩))
                have HE := Lib.hid (show (decide (m4 ≤ 64) && decide (m5 ≤ 64)) = false by simp; intro h; simp at hfit; exact hfit h)
                have HSF := Lib.hid (HSo.out.trans HDt.out)
                rw [HE.out]
                go_wp2_with fail
                go_ret2
                exact ⟨HSF.out, Or.inr ⟨HNO.out, rfl⟩⟩
              obtain ⟨h1, h2⟩ := hfit
              have HE := Lib.hid (show (decide (m4 ≤ 64) && decide (m5 ≤ 64)) = true by simp [h1, h2])
              rw [HE.out]
              have hok : proofC.ok q2 := ⟨nums_fit I4.out h1, nums_fit I5.out h2⟩
              have HOK := Lib.hid (show ∀ x ∈ [q0, q1, q2].take (2 + 1), proofC.ok x from by
                  have h1 := HOKS.out
                  intro x hx
                  simp at hx h1
                  rcases hx with rfl | rfl | rfl
                  · exact h1.1
                  · exact h1.2
                  · exact hok)
              obtain ⟨A, eA⟩ : ∃ A, ofL l3 = A := ⟨_, rfl⟩
              obtain ⟨B, eB⟩ : ∃ B, ofL (proofC.enc q2) = B := ⟨_, rfl⟩
              have hA : A.size ≤ 50000 := by rw [← eA, size_ofL]; exact hl3
              have hB : B.size ≤ 1028 := by rw [← eB, size_ofL]; exact proof_len hok
              have hcat : ¬ (A.size + B.size > 9223372036854775807) := by omega
              have HA := Lib.hid (show A ++ B = ofL (l2 ++ ([q0, q1, q2].take (2 + 1)).flatMap proofC.enc) by
                rw [← eA, ← eB, append_ofL, ← EL3.out, List.append_assoc]; simp)
              have EB2 := Lib.hid eB
              rw [eA]
              clear eA eB hA hB hok
              go_wp2_with fail
              refine (rproofs_any p4 m4 d4 p5 m5 d5 q2 h1 h2 wt (I4.out.same HDt.out) (I5.out.same HDt.out)).mono ?_
              rintro e w5 ⟨rfl, hs5⟩
              rw [EB2.out]
              have HD5 := Lib.hid (show Same wo w5 ∧ ∀ x ∈ [q0, q1, q2].take (2 + 1), proofC.ok x from ⟨HDt.out.trans hs5, HOK.out⟩)
              clear hs5 k0 k1
              go_wp2_with fail
              go_roundw
              case rel => exact ⟨2 + 1, by go_num, by omega, by rw [HA.out], HD5⟩
              case measure => simp [intOf]
            · rw [show ((3 : Nat) : Int) = 3 from rfl]
              have HF := Lib.hid (show Same w1 wr ∧ ∀ x ∈ ls.take (i + 1), passC.ok x from ⟨HW1.out.trans hD.out.1, HOKN.out ⟨⟨rfl, HU.out⟩, rfl, hD.out.2⟩⟩)
              have HA2 := Lib.hid (show 3 :: encC n ++ (ls.take (i + 1)).flatMap passC.enc = l3 by
                rw [← EL3.out, ← EL2.out, ← EL1.out, HTK.out, ← List.append_assoc, List.append_assoc _ ([x0, x1, x2, x3, x4, x5, x6, x7, x8].flatMap encN)]
                rfl)
              clear hD
              go_wp2_with fail
              go_roundw
              case rel => exact ⟨i + 1, by go_num, by omega, by rw [HA2.out], HF⟩
              case measure => simp [intOf]; omega
    · obtain rfl : n = i := by omega
      have HOK := Lib.hid (show passlC.ok ls from ⟨⟨by have := HNL.out; omega, by have := HNL.out; omega⟩, by have h := hH.out.2; rwa [List.take_of_length_le (by have := HNL.out; omega)] at h⟩)
      have HE := Lib.hid (show l1 = 3 :: passlC.enc ls by
        rw [← EL1.out, List.take_of_length_le (by have := HNL.out; omega)]
        show _ = 3 :: (encC ls.length ++ ls.flatMap passC.enc)
        rw [HNL.out]; rfl)
      rw [HE.out]
      clear hH
      go_wp2_with fail
      go_ret2
      exact ⟨HSo.out, Or.inl ⟨HOK.out, rfl⟩⟩
end Go.Proofs.Ytdbhcdhenapfoaa
