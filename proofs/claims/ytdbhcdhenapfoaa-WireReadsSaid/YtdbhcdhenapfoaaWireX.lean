/- Layer 10: the writer's list, proof, box. -/
import Derived.Test.YtdbhcdhenapfoaaWireW
set_option linter.unusedVariables false
set_option linter.unusedSimpArgs false
namespace Go.Proofs.Ytdbhcdhenapfoaa
open Go.RowKit Go.Maps
theorem IntsAt.u {w : World} {a : Option Addr} {n : Nat} {xs : List Int} (h : IntsAt w a n xs) : ∀ x ∈ xs, U64 x := by
  intro x hx
  obtain ⟨j, hj, e⟩ := List.getElem_of_mem hx
  have := h.bd j
  rwa [show xs.getD j 0 = x by simp [List.getD, List.getElem?_eq_getElem hj, e]] at this
theorem Wrote.ints {lo wb : Nat} {w : World} {b : Nat} {xs : List Int} (hb : w.heap[b]? = some (.cells (vals xs).toArray 33 (0, 0))) (hne : b ≠ wb) (hu : ∀ x ∈ xs, U64 x) (hs : xs.length ≤ 100) : ∀ w', Wrote lo wb w w' → IntsAt w' (some ⟨b, 0, none⟩) xs.length xs := by
  intro w' hW
  have h1 := hW.keep hb hne (by decide)
  refine ⟨rfl, by omega, fun _ => ⟨b, 0, rfl, fun j hj => ?_⟩, fun j => ?_⟩
  · rw [cell_at h1]; simp [vals, List.getD, List.getElem?_eq_getElem hj]
  · by_cases hj : j < xs.length
    · rw [show xs.getD j 0 = xs[j] by simp [List.getD, List.getElem?_eq_getElem hj]]; exact hu _ (List.getElem_mem hj)
    · rw [show xs.getD j 0 = 0 by simp [List.getD, List.getElem?_eq_none (show xs.length ≤ j by omega)]]; exact ⟨by decide, by decide⟩
theorem nums_len {xs : List Int} (h : numsC.ok xs) : (numsC.enc xs).length ≤ 514 := by
  show (encC xs.length ++ xs.flatMap encN).length ≤ 514
  rw [List.length_append, flat_len]
  have := h.1.1
  show 2 + _ ≤ _
  omega
theorem proof_len {p : ProofD} (h : proofC.ok p) : (proofC.enc p).length ≤ 1028 := by
  show (numsC.enc p.1 ++ numsC.enc p.2).length ≤ 1028
  have h1 := nums_len h.1
  have h2 := nums_len h.2
  rw [List.length_append]; omega
theorem wlist_any (lo wb : Nat) (l : Bs) (a : Option Addr) (n c : Nat) (xs : List Int) (hl : l.length ≤ 900000) (w : World) (h : WrAt w wb lo l) (hI : ∀ w', Wrote lo wb w w' → IntsAt w' a n xs) :
    Calls Try.prog 31 #[.pointer (some ⟨wb, 0, none⟩), .slice a n c] w fun z w' =>
      Wrote lo wb w w' ∧ ((numsC.ok xs ∧ z = .returned (.tuple #[]) ∧ WrAt w' wb lo (l ++ numsC.enc xs)) ∨ (¬ numsC.ok xs ∧ z = .panicked [badP])) := by
  have HI := Lib.hid hI
  have HW := Lib.hid h
  have HLX := Lib.hid (hI w (Wrote.refl _ _ _)).len
  have HU := Lib.hid (hI w (Wrote.refl _ _ _)).u
  clear h hI
  go_enter Try.func31, Try.ntmps31
  go_wp2_with fail
  refine (wcount_any lo wb l n 64 (by omega) (by omega) w HW.out).mono ?_
  rintro e w2 (⟨hn, rfl, hO, hV⟩ | ⟨hn, rfl, rfl⟩)
  · have HO := Lib.hid hO
    have HV := Lib.hid hV
    clear hO hV
    go_wp2_with fail
    refine (wnum_any lo wb (l ++ encC n) a n c xs (by rw [List.length_append]; show _ + 2 + _ ≤ _; omega) w2 HV.out (fun w' hw => HI.out w' (HO.out.trans hw))).mono ?_
    rintro e w3 ⟨rfl, hO3, hV3⟩
    have HFIN := Lib.hid (show Wrote lo wb w w3 ∧ numsC.ok xs ∧ WrAt w3 wb lo (l ++ numsC.enc xs) from ⟨HO.out.trans hO3, ⟨⟨by rw [HLX.out]; exact hn, by rw [HLX.out]; omega⟩, HU.out⟩, by
      rw [List.append_assoc] at hV3
      show WrAt w3 wb lo (l ++ (encC xs.length ++ xs.flatMap encN))
      rw [HLX.out]; exact hV3⟩)
    clear hO3 hV3
    go_wp2_with fail
    exact ⟨rfl, _, results_none rfl _ _ _, HFIN.out.1, Or.inl ⟨HFIN.out.2.1, rfl, HFIN.out.2.2⟩⟩
  · go_wp2_with fail
    exact ⟨rfl, Wrote.refl _ _ _, Or.inr ⟨fun h => by have h1 := h.1.1; rw [HLX.out] at h1; omega, rfl⟩⟩
theorem wproof_any (lo wb : Nat) (l : Bs) (a1 : Option Addr) (n1 c1 : Nat) (a2 : Option Addr) (n2 c2 : Nat) (p : ProofD) (hl : l.length ≤ 800000) (w : World) (h : WrAt w wb lo l) (hI1 : ∀ w', Wrote lo wb w w' → IntsAt w' a1 n1 p.1) (hI2 : ∀ w', Wrote lo wb w w' → IntsAt w' a2 n2 p.2) :
    Calls Try.prog 30 #[.pointer (some ⟨wb, 0, none⟩), .agg #[.slice a1 n1 c1, .slice a2 n2 c2]] w fun z w' =>
      Wrote lo wb w w' ∧ ((proofC.ok p ∧ z = .returned (.tuple #[]) ∧ WrAt w' wb lo (l ++ proofC.enc p)) ∨ (¬ proofC.ok p ∧ z = .panicked [badP])) := by
  obtain ⟨w0, ew0⟩ : ∃ w0, w.alloc (.cells #[.slice a1 n1 c1, .slice a2 n2 c2] 26) = w0 := ⟨_, rfl⟩
  obtain ⟨pb, epb⟩ : ∃ pb, w.heap.size = pb := ⟨_, rfl⟩
  have hS : Same w w0 := by rw [← ew0]; exact (Same.refl w).alloc _
  have HB := Lib.hid (show w0.heap[pb]? = some (.cells #[.slice a1 n1 c1, .slice a2 n2 c2] 26 (0, 0)) by rw [← ew0, ← epb]; exact heap_new _ _)
  obtain ⟨va, vn, vc, hb, ho⟩ := h.ex
  have HNE := Lib.hid (show pb ≠ wb by have := (Array.getElem?_eq_some_iff.1 hb).1; omega)
  have HW := Lib.hid (h.same hS)
  have HO0 := Lib.hid (show Wrote lo wb w w0 from Wrote.of_same hS)
  have HI1 := Lib.hid hI1
  have HI2 := Lib.hid hI2
  have EW0 := Lib.hid ew0
  have EPB := Lib.hid epb
  have k0 : w0.cell? ⟨pb, 0, none⟩ = some (.slice a1 n1 c1) := by rw [cell_at HB.out]; rfl
  clear h hI1 hI2 ew0 epb hS hb ho
  go_enter Try.func30, Try.ntmps30
  go_upto_region 1 with fail
  rw [EW0.out, EPB.out]
  go_wp2_with fail
  refine (wlist_any lo wb l a1 n1 c1 p.1 (by omega) w0 HW.out (fun w' hw => HI1.out w' (HO0.out.trans hw))).mono ?_
  rintro e w2 ⟨hO, (⟨hok, rfl, hV⟩ | ⟨hok, rfl⟩)⟩
  case inr =>
    have HFN := Lib.hid (show Wrote lo wb w w2 from HO0.out.trans hO)
    go_wp2_with fail
    exact ⟨rfl, HFN.out, Or.inr ⟨fun h => hok h.1, rfl⟩⟩
  have HO2 := Lib.hid (HO0.out.trans hO)
  have HV := Lib.hid hV
  have hnl := nums_len hok
  have HOK := Lib.hid hok
  have k1 : w2.cell? ⟨pb, 1, none⟩ = some (.slice a2 n2 c2) := by rw [cell_at (hO.keep HB.out HNE.out (by decide))]; rfl
  have hll : (l ++ numsC.enc p.1).length ≤ 900000 := by rw [List.length_append]; omega
  clear hO hV hok
  go_upto_region 2 with fail
  go_wp2_with fail
  refine (wlist_any lo wb (l ++ numsC.enc p.1) a2 n2 c2 p.2 hll w2 HV.out (fun w' hw => HI2.out w' (HO2.out.trans hw))).mono ?_
  rintro e w3 ⟨hO, (⟨hok, rfl, hV⟩ | ⟨hok, rfl⟩)⟩
  · have HFIN := Lib.hid (show Wrote lo wb w w3 ∧ proofC.ok p ∧ WrAt w3 wb lo (l ++ proofC.enc p) from ⟨HO2.out.trans hO, ⟨HOK.out, hok⟩, by rw [List.append_assoc] at hV; exact hV⟩)
    clear hO hok hV
    go_wp2_with fail
    exact ⟨rfl, _, results_none rfl _ _ _, HFIN.out.1, Or.inl ⟨HFIN.out.2.1, rfl, HFIN.out.2.2⟩⟩
  · have HFN := Lib.hid (show Wrote lo wb w w3 from HO2.out.trans hO)
    go_wp2_with fail
    exact ⟨rfl, HFN.out, Or.inr ⟨fun h => hok h.2, rfl⟩⟩
set_option maxRecDepth 20000 in
set_option maxHeartbeats 1600000 in
theorem wbox_any (lo wb : Nat) (l : Bs) (x0 x1 x2 x3 x4 x5 : Int) (hl : l.length ≤ 900000) (hu : ∀ x ∈ [x0, x1, x2, x3, x4, x5], U64 x) (w : World) (h : WrAt w wb lo l) :
    Calls Try.prog 29 #[.pointer (some ⟨wb, 0, none⟩), .agg #[.int .u64 x0, .int .u64 x1, .int .u64 x2, .int .u64 x3, .int .u64 x4, .int .u64 x5]] w fun z w' =>
      z = .returned (.tuple #[]) ∧ Wrote lo wb w w' ∧ WrAt w' wb lo (l ++ [x0, x1, x2, x3, x4, x5].flatMap encN) := by
  have HU := Lib.hid hu
  obtain ⟨w0, ew0⟩ : ∃ w0, w.alloc (.cells #[.int .u64 x0, .int .u64 x1, .int .u64 x2, .int .u64 x3, .int .u64 x4, .int .u64 x5] 37) = w0 := ⟨_, rfl⟩
  obtain ⟨bb, ebb⟩ : ∃ bb, w.heap.size = bb := ⟨_, rfl⟩
  have hS : Same w w0 := by rw [← ew0]; exact (Same.refl w).alloc _
  have hB : w0.heap[bb]? = some (.cells #[.int .u64 x0, .int .u64 x1, .int .u64 x2, .int .u64 x3, .int .u64 x4, .int .u64 x5] 37 (0, 0)) := by rw [← ew0, ← ebb]; exact heap_new _ _
  obtain ⟨va, vn, vc, hb, ho⟩ := h.ex
  have HWB := Lib.hid (show wb < w.heap.size from (Array.getElem?_eq_some_iff.1 hb).1)
  have HW := Lib.hid (h.same hS)
  have HO0 := Lib.hid (show Wrote lo wb w w0 from Wrote.of_same hS)
  have EW0 := Lib.hid ew0
  have EBB := Lib.hid ebb
  have k0 : w0.cell? ⟨bb, 0, none⟩ = some (.int .u64 x0) := by rw [cell_at hB]; rfl
  have k1 : w0.cell? ⟨bb, 1, none⟩ = some (.int .u64 x1) := by rw [cell_at hB]; rfl
  have k2 : w0.cell? ⟨bb, 2, none⟩ = some (.int .u64 x2) := by rw [cell_at hB]; rfl
  have k3 : w0.cell? ⟨bb, 3, none⟩ = some (.int .u64 x3) := by rw [cell_at hB]; rfl
  have k4 : w0.cell? ⟨bb, 4, none⟩ = some (.int .u64 x4) := by rw [cell_at hB]; rfl
  have k5 : w0.cell? ⟨bb, 5, none⟩ = some (.int .u64 x5) := by rw [cell_at hB]; rfl
  clear h hu ew0 ebb hS hb ho hB
  go_enter Try.func29, Try.ntmps29
  go_upto_region 1 with fail
  rw [EW0.out, EBB.out]
  go_wp2_with fail
  clear k0 k1 k2 k3 k4 k5
  go_loopw [7] (fun s7 wr => ∃ i : Nat, s7 = .int .i64 i ∧ i ≤ 3 ∧ Hid (WrAt wr wb lo (l ++ ([x0, x1, x2, x3, x4, x5].take (2 * i)).flatMap encN)) ∧ Hid (Wrote lo wb w wr)) (fun s7 _ => 3 - (intOf s7).toNat)
  case atStart => exact ⟨0, rfl, by omega, Lib.hid (by simpa using HW.out), HO0⟩
  case round =>
    obtain ⟨i, rfl, hi', hV, hD⟩ := hrel
    have hcase : i = 0 ∨ i = 1 ∨ i = 2 ∨ i = 3 := by omega
    clear hi'
    rcases hcase with rfl | rfl | rfl | rfl
    · rw [show ((0 : Nat) : Int) = 0 from rfl]
      obtain ⟨wp, ewp⟩ : ∃ wp, wr.alloc (.cells #[.int .u64 x0, .int .u64 x1] 35) = wp := ⟨_, rfl⟩
      obtain ⟨pb, epb⟩ : ∃ pb, wr.heap.size = pb := ⟨_, rfl⟩
      have hSp : Same wr wp := by rw [← ewp]; exact (Same.refl wr).alloc _
      have hpb : wp.heap[pb]? = some (.cells #[.int .u64 x0, .int .u64 x1] 35 (0, 0)) := by rw [← ewp, ← epb]; exact heap_new _ _
      have k0 : wp.cell? ⟨pb, 0, none⟩ = some (.int .u64 x0) := by rw [cell_at hpb]; rfl
      have k1 : wp.cell? ⟨pb, 1, none⟩ = some (.int .u64 x1) := by rw [cell_at hpb]; rfl
      obtain ⟨wq, ewq⟩ : ∃ wq, wp.alloc (.cells #[.int .u64 x0, .int .u64 x1] 33) = wq := ⟨_, rfl⟩
      obtain ⟨qb, eqb⟩ : ∃ qb, wp.heap.size = qb := ⟨_, rfl⟩
      have hSq : Same wp wq := by rw [← ewq]; exact (Same.refl wp).alloc _
      have hqb : wq.heap[qb]? = some (.cells (vals [x0, x1]).toArray 33 (0, 0)) := by rw [← ewq, ← eqb]; exact heap_new _ _
      have HV := Lib.hid (hV.out.same (hSp.trans hSq))
      have HD := Lib.hid (hD.out.trans (Wrote.of_same (hSp.trans hSq)))
      have HIN := Lib.hid (Wrote.ints (lo := lo) (wb := wb) hqb (by
        have h1 := hD.out.size
        have h2 := hSp.size
        have h3 := HWB.out
        omega) (by intro x hx; simp at hx; rcases hx with rfl | rfl; exact HU.out _ (by simp); exact HU.out _ (by simp)) (by simp))
      have EWP := Lib.hid ewp
      have EPB := Lib.hid epb
      have EWQ := Lib.hid ewq
      have EQB := Lib.hid eqb
      clear hV hD ewp epb ewq eqb hSp hSq hpb hqb
      have hix : ∀ w : World, (Instr.index 37 (.agg #[.int .u64 x0, .int .u64 x1, .int .u64 x2, .int .u64 x3, .int .u64 x4, .int .u64 x5]) (.int .i64 0)).run Try.prog w = .ok (.agg #[.int .u64 x0, .int .u64 x1]) w := fun _ => rfl
      go_upto_region 4 with fail
      rw [EWP.out, EPB.out]
      go_wp2_with fail
      rw [EWQ.out, EQB.out]
      refine (wnum_any lo wb (l ++ ([x0, x1, x2, x3, x4, x5].take (2 * 0)).flatMap encN) (some ⟨qb, 0, none⟩) 2 2 [x0, x1] (by rw [List.length_append, flat_len]; simp; omega) wq HV.out HIN.out).mono ?_
      rintro e w5 ⟨rfl, hO5, hV5⟩
      have HV5 := Lib.hid (show WrAt w5 wb lo (l ++ ([x0, x1, x2, x3, x4, x5].take (2 * (0 + 1))).flatMap encN) by rw [List.append_assoc, ← List.flatMap_append] at hV5; exact hV5)
      have HD5 := Lib.hid (HD.out.trans hO5)
      clear hO5 hV5 k0 k1
      go_wp2_with fail
      go_roundw
      case rel => exact ⟨0 + 1, by go_num, by omega, HV5, HD5⟩
      case measure => simp [intOf]
    · rw [show ((1 : Nat) : Int) = 1 from rfl]
      obtain ⟨wp, ewp⟩ : ∃ wp, wr.alloc (.cells #[.int .u64 x2, .int .u64 x3] 35) = wp := ⟨_, rfl⟩
      obtain ⟨pb, epb⟩ : ∃ pb, wr.heap.size = pb := ⟨_, rfl⟩
      have hSp : Same wr wp := by rw [← ewp]; exact (Same.refl wr).alloc _
      have hpb : wp.heap[pb]? = some (.cells #[.int .u64 x2, .int .u64 x3] 35 (0, 0)) := by rw [← ewp, ← epb]; exact heap_new _ _
      have k0 : wp.cell? ⟨pb, 0, none⟩ = some (.int .u64 x2) := by rw [cell_at hpb]; rfl
      have k1 : wp.cell? ⟨pb, 1, none⟩ = some (.int .u64 x3) := by rw [cell_at hpb]; rfl
      obtain ⟨wq, ewq⟩ : ∃ wq, wp.alloc (.cells #[.int .u64 x2, .int .u64 x3] 33) = wq := ⟨_, rfl⟩
      obtain ⟨qb, eqb⟩ : ∃ qb, wp.heap.size = qb := ⟨_, rfl⟩
      have hSq : Same wp wq := by rw [← ewq]; exact (Same.refl wp).alloc _
      have hqb : wq.heap[qb]? = some (.cells (vals [x2, x3]).toArray 33 (0, 0)) := by rw [← ewq, ← eqb]; exact heap_new _ _
      have HV := Lib.hid (hV.out.same (hSp.trans hSq))
      have HD := Lib.hid (hD.out.trans (Wrote.of_same (hSp.trans hSq)))
      have HIN := Lib.hid (Wrote.ints (lo := lo) (wb := wb) hqb (by
        have h1 := hD.out.size
        have h2 := hSp.size
        have h3 := HWB.out
        omega) (by intro x hx; simp at hx; rcases hx with rfl | rfl; exact HU.out _ (by simp); exact HU.out _ (by simp)) (by simp))
      have EWP := Lib.hid ewp
      have EPB := Lib.hid epb
      have EWQ := Lib.hid ewq
      have EQB := Lib.hid eqb
      clear hV hD ewp epb ewq eqb hSp hSq hpb hqb
      have hix : ∀ w : World, (Instr.index 37 (.agg #[.int .u64 x0, .int .u64 x1, .int .u64 x2, .int .u64 x3, .int .u64 x4, .int .u64 x5]) (.int .i64 1)).run Try.prog w = .ok (.agg #[.int .u64 x2, .int .u64 x3]) w := fun _ => rfl
      go_upto_region 4 with fail
      rw [EWP.out, EPB.out]
      go_wp2_with fail
      rw [EWQ.out, EQB.out]
      refine (wnum_any lo wb (l ++ ([x0, x1, x2, x3, x4, x5].take (2 * 1)).flatMap encN) (some ⟨qb, 0, none⟩) 2 2 [x2, x3] (by rw [List.length_append, flat_len]; simp; omega) wq HV.out HIN.out).mono ?_
      rintro e w5 ⟨rfl, hO5, hV5⟩
      have HV5 := Lib.hid (show WrAt w5 wb lo (l ++ ([x0, x1, x2, x3, x4, x5].take (2 * (1 + 1))).flatMap encN) by rw [List.append_assoc, ← List.flatMap_append] at hV5; exact hV5)
      have HD5 := Lib.hid (HD.out.trans hO5)
      clear hO5 hV5 k0 k1
      go_wp2_with fail
      go_roundw
      case rel => exact ⟨1 + 1, by go_num, by omega, HV5, HD5⟩
      case measure => simp [intOf]
    · rw [show ((2 : Nat) : Int) = 2 from rfl]
      obtain ⟨wp, ewp⟩ : ∃ wp, wr.alloc (.cells #[.int .u64 x4, .int .u64 x5] 35) = wp := ⟨_, rfl⟩
      obtain ⟨pb, epb⟩ : ∃ pb, wr.heap.size = pb := ⟨_, rfl⟩
      have hSp : Same wr wp := by rw [← ewp]; exact (Same.refl wr).alloc _
      have hpb : wp.heap[pb]? = some (.cells #[.int .u64 x4, .int .u64 x5] 35 (0, 0)) := by rw [← ewp, ← epb]; exact heap_new _ _
      have k0 : wp.cell? ⟨pb, 0, none⟩ = some (.int .u64 x4) := by rw [cell_at hpb]; rfl
      have k1 : wp.cell? ⟨pb, 1, none⟩ = some (.int .u64 x5) := by rw [cell_at hpb]; rfl
      obtain ⟨wq, ewq⟩ : ∃ wq, wp.alloc (.cells #[.int .u64 x4, .int .u64 x5] 33) = wq := ⟨_, rfl⟩
      obtain ⟨qb, eqb⟩ : ∃ qb, wp.heap.size = qb := ⟨_, rfl⟩
      have hSq : Same wp wq := by rw [← ewq]; exact (Same.refl wp).alloc _
      have hqb : wq.heap[qb]? = some (.cells (vals [x4, x5]).toArray 33 (0, 0)) := by rw [← ewq, ← eqb]; exact heap_new _ _
      have HV := Lib.hid (hV.out.same (hSp.trans hSq))
      have HD := Lib.hid (hD.out.trans (Wrote.of_same (hSp.trans hSq)))
      have HIN := Lib.hid (Wrote.ints (lo := lo) (wb := wb) hqb (by
        have h1 := hD.out.size
        have h2 := hSp.size
        have h3 := HWB.out
        omega) (by intro x hx; simp at hx; rcases hx with rfl | rfl; exact HU.out _ (by simp); exact HU.out _ (by simp)) (by simp))
      have EWP := Lib.hid ewp
      have EPB := Lib.hid epb
      have EWQ := Lib.hid ewq
      have EQB := Lib.hid eqb
      clear hV hD ewp epb ewq eqb hSp hSq hpb hqb
      have hix : ∀ w : World, (Instr.index 37 (.agg #[.int .u64 x0, .int .u64 x1, .int .u64 x2, .int .u64 x3, .int .u64 x4, .int .u64 x5]) (.int .i64 2)).run Try.prog w = .ok (.agg #[.int .u64 x4, .int .u64 x5]) w := fun _ => rfl
      go_upto_region 4 with fail
      rw [EWP.out, EPB.out]
      go_wp2_with fail
      rw [EWQ.out, EQB.out]
      refine (wnum_any lo wb (l ++ ([x0, x1, x2, x3, x4, x5].take (2 * 2)).flatMap encN) (some ⟨qb, 0, none⟩) 2 2 [x4, x5] (by rw [List.length_append, flat_len]; simp; omega) wq HV.out HIN.out).mono ?_
      rintro e w5 ⟨rfl, hO5, hV5⟩
      have HV5 := Lib.hid (show WrAt w5 wb lo (l ++ ([x0, x1, x2, x3, x4, x5].take (2 * (2 + 1))).flatMap encN) by rw [List.append_assoc, ← List.flatMap_append] at hV5; exact hV5)
      have HD5 := Lib.hid (HD.out.trans hO5)
      clear hO5 hV5 k0 k1
      go_wp2_with fail
      go_roundw
      case rel => exact ⟨2 + 1, by go_num, by omega, HV5, HD5⟩
      case measure => simp [intOf]
    · rw [show ((3 : Nat) : Int) = 3 from rfl]
      go_wp2_with fail
      exact ⟨rfl, _, results_none rfl _ _ _, rfl, hD.out, hV.out⟩
end Go.Proofs.Ytdbhcdhenapfoaa
