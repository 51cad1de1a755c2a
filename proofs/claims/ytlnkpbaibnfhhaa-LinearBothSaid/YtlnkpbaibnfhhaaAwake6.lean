/- The law's awake: 64 is 4 to the third. -/
import Derived.Test.YtlnkpbaibnfhhaaLinSame
import Derived.Test.YtlnkpbaibnfhhaaW4
set_option linter.unusedVariables false
set_option linter.unusedSimpArgs false
namespace Go.Proofs.Ytlnkpbaibnfhhaa
open Go.RowKit NT
theorem small5_any (w : World) : Calls Try.prog 32 #[] w fun z w' => ∃ P Q G H a n c, z = .returned (.agg #[.int .u64 P, .int .u64 Q, .int .u64 G, .int .u64 H, .slice a n c]) ∧ Hid (P = 2027 ∧ Q = 1013 ∧ G = 4) ∧ Same w w' :=
  (small4_any w).mono fun z w' ⟨a, e, _, hs⟩ => ⟨_, _, _, _, _, _, _, e, Lib.hid ⟨rfl, rfl, rfl⟩, hs⟩
theorem in4_64 : InP 2027 1013 64 := ⟨by decide, by decide, powI_num (a := 64) (e := 1013) (n := 2027) 1 (by omega) (by omega) (by kernel_rfl)⟩
theorem ok6 : ClaimOk 2027 1013 [64] [[4]] := by
  refine ⟨by decide, by decide, rfl, ?_, by decide, by decide, ?_⟩
  · intro x hx; simp at hx; subst hx; exact in4_64
  · intro j hj
    have : j = 0 := by simp at hj; omega
    subst this
    exact ⟨rfl, by intro x hx; simp at hx; subst hx; exact in4_4⟩
theorem size6 : sizeS 2027 1013 [64] [[4]] = 1 := by rw [sizeS_yes ok6]; rfl
theorem img6 (e v : Int) (h : powI 4 (e % 1013) 2027 = v) (v0 : 0 ≤ v) (v1 : v < 2027) : imageS 2027 1013 [[4]] [e] = [v] := by
  have hg : GrpP 2027 1013 := right4.grp
  unfold imageS imgRow
  simp only [List.map_cons, List.map_nil, List.length_cons, List.length_nil, imgUp, List.getD_cons_zero]
  unfold expI
  rw [if_neg (by decide), h, ← prod_mul hg, prod_one hg v0 v1]
theorem holds6_3 : holdsB6 2027 1013 [64] [[4]] [3] = true :=
  holdsB6_iff ⟨ok6, rfl⟩ (img6 3 64 (powI_num (a := 4) (e := 3) (n := 2027) 64 (by omega) (by omega) rfl) (by decide) (by decide))
theorem holds6_4 : holdsB6 2027 1013 [64] [[4]] [4] = false := by
  have ho : ImgOk 2027 1013 [64] [[4]] [4] := ⟨ok6, rfl⟩
  rw [← holdsB6_ok ho, imgL_yes ho, img6 4 256 (powI_num (a := 4) (e := 4) (n := 2027) 256 (by omega) (by omega) rfl) (by decide) (by decide)]
  exact sameB_no (by decide)
theorem ints_one6 (w : World) (t : TypeId) (a : Int) (ha : U64 a) : IntsAt (w.alloc (.cells #[.int .u64 a] t)) (some ⟨w.heap.size, 0, none⟩) 1 [a] := by
  refine ⟨rfl, by omega, fun _ => ⟨w.heap.size, 0, rfl, fun j hj => ?_⟩, fun j => ?_⟩
  · match j, hj with
    | 0, _ => simp [World.cell?_alloc_new]
  · match j with
    | 0 => exact ha
    | _ + 1 => exact ⟨by simp, by simp⟩
theorem par_awake (w : World) (P Q G H : Int) (ra : Option Addr) (rn rc : Nat) : ∃ W gx t1 t2 t3 cx, w.heap.size = gx ∧ gx + 1 = t1 ∧ t1 + 1 = t2 ∧ t2 + 1 = t3 ∧ t3 + 1 = cx ∧
    ((((w.alloc (.cells #[.int .u64 P, .int .u64 Q, .int .u64 G, .int .u64 H, .slice ra rn rc] 25)).alloc (.cells #[.int .u64 64] 22)).alloc (.cells #[.int .u64 4] 22)).alloc (.cells #[.slice (some ⟨t2, 0, none⟩) 1 1] 26)).alloc (.cells #[.slice (some ⟨t1, 0, none⟩) 1 1, .slice (some ⟨t3, 0, none⟩) 1 1] 29) = W ∧
    ClS w gx cx P Q G H ra rn rc (.slice (some ⟨t1, 0, none⟩) 1 1) (.slice (some ⟨t3, 0, none⟩) 1 1) W ∧ IntsAt W (some ⟨t1, 0, none⟩) 1 [64] ∧ MatAt W (some ⟨t3, 0, none⟩) 1 [[4]] := by
  obtain ⟨W1, gx, e1, e2, hS, c0, c1, c2, c3, c4⟩ := par_box w P Q G H (.slice ra rn rc)
  have z1 : W1.heap.size = gx + 1 := by rw [← e1, ← e2]; simp
  obtain ⟨W2, f2⟩ : ∃ W2, W1.alloc (.cells #[.int .u64 64] 22) = W2 := ⟨_, rfl⟩
  have i2 := ints_one6 W1 22 64 ⟨by decide, by decide⟩
  have s2 : Same W1 W2 := by rw [← f2]; exact (Same.refl W1).alloc _
  have z2 : W2.heap.size = gx + 1 + 1 := by rw [← f2, ← z1]; simp
  rw [f2, z1] at i2
  obtain ⟨W3, f3⟩ : ∃ W3, W2.alloc (.cells #[.int .u64 4] 22) = W3 := ⟨_, rfl⟩
  have i3 := ints_one6 W2 22 4 ⟨by decide, by decide⟩
  have s3 : Same W2 W3 := by rw [← f3]; exact (Same.refl W2).alloc _
  have z3 : W3.heap.size = gx + 1 + 1 + 1 := by rw [← f3, ← z2]; simp
  rw [f3, z2] at i3
  obtain ⟨W4, f4⟩ : ∃ W4, W3.alloc (.cells #[.slice (some ⟨gx + 1 + 1, 0, none⟩) 1 1] 26) = W4 := ⟨_, rfl⟩
  have k4 : W4.cell? ⟨gx + 1 + 1 + 1, 0, none⟩ = some (.slice (some ⟨gx + 1 + 1, 0, none⟩) 1 1) := by rw [← f4, ← z3]; simp [World.cell?_alloc_new]
  have s4 : Same W3 W4 := by rw [← f4]; exact (Same.refl W3).alloc _
  have z4 : W4.heap.size = gx + 1 + 1 + 1 + 1 := by rw [← f4, ← z3]; simp
  obtain ⟨W5, f5⟩ : ∃ W5, W4.alloc (.cells #[.slice (some ⟨gx + 1, 0, none⟩) 1 1, .slice (some ⟨gx + 1 + 1 + 1, 0, none⟩) 1 1] 29) = W5 := ⟨_, rfl⟩
  have q0 : W5.cell? ⟨gx + 1 + 1 + 1 + 1, 0, none⟩ = some (.slice (some ⟨gx + 1, 0, none⟩) 1 1) := by rw [← f5, ← z4]; simp [World.cell?_alloc_new]
  have q1 : W5.cell? ⟨gx + 1 + 1 + 1 + 1, 1, none⟩ = some (.slice (some ⟨gx + 1 + 1 + 1, 0, none⟩) 1 1) := by rw [← f5, ← z4]; simp [World.cell?_alloc_new]
  have s5 : Same W4 W5 := by rw [← f5]; exact (Same.refl W4).alloc _
  have s35 := s4.trans s5
  have s25 := s3.trans s35
  have s15 := s2.trans s25
  refine ⟨W5, gx, gx + 1, gx + 1 + 1, gx + 1 + 1 + 1, gx + 1 + 1 + 1 + 1, e2, rfl, rfl, rfl, rfl, by rw [e1, f2, f3, f4, f5], ?_, i2.same s25, ?_⟩
  · exact ⟨q0, q1, same_cell s15 c0, same_cell s15 c1, same_cell s15 c2, same_cell s15 c3, same_cell s15 c4, hS.trans s15⟩
  · refine ⟨rfl, by omega, fun _ => ⟨_, 0, rfl, fun j hj => ?_⟩⟩
    have : j = 0 := by omega
    subst this
    exact ⟨_, _, _, same_cell s5 k4, i3.same s35⟩
set_option maxHeartbeats 1600000 in
theorem awake6 (w : World) : Calls Try.prog 10 #[] w fun e w' => e = .returned (.bool true) ∧ Same w w' := by
  go_enter Try.func10, Try.ntmps10
  go_upto_region 1 with fail
  go_wp2_with fail
  refine (small5_any _).mono ?_
  rintro e1 w0 ⟨P, Q, G, H, ra, rn, rc, rfl, HN, hS0⟩
  go_upto_region 3 with fail
  obtain ⟨W, gx, t1, t2, t3, cx, e0, e1, e2, e3, e4, eW, hB, ht, hb⟩ := par_awake w0 P Q G H ra rn rc
  rw [e0, e1, e2, e3, e4, eW]
  have HB := Lib.hid hB
  have HT := Lib.hid ht
  have HM := Lib.hid hb
  have HU := Lib.hid (show U64 P ∧ U64 Q from by obtain ⟨rfl, rfl, rfl⟩ := HN.out; exact ⟨⟨by decide, by decide⟩, ⟨by decide, by decide⟩⟩)
  have HGR := Lib.hid (show GrpP P Q by obtain ⟨rfl, rfl, rfl⟩ := HN.out; exact right4.grp)
  have HV := Lib.hid (show sizeS P Q [64] [[4]] = 1 ∧ holdsB6 P Q [64] [[4]] [3] = true ∧ holdsB6 P Q [64] [[4]] [4] = false by obtain ⟨rfl, rfl, rfl⟩ := HN.out; exact ⟨size6, holds6_3, holds6_4⟩)
  clear e0 e1 e2 e3 e4 eW hB ht hb
  obtain ⟨c0, c1, b0, b1, b2, b3, b4, hS⟩ := HB.out
  go_wp2_with fail
  refine (size_any P Q G H ra rn rc _ _ 1 1 1 1 [64] [[4]] HU.out.1 HU.out.2 _ HT.out HM.out).mono ?_
  rintro e1 w1 ⟨rfl, hT1⟩
  rw [HV.out.1]
  have HB1 := Lib.hid (ClS.same HB.out hT1)
  clear c0 c1 b0 b1 b2 b3 b4 hS
  obtain ⟨c0, c1, b0, b1, b2, b3, b4, hS⟩ := HB1.out
  go_wp2_with fail
  refine (holds6_any P Q G H ra rn rc _ _ _ 1 1 1 1 1 1 [64] [[4]] [3] HU.out.1 HU.out.2 HGR.out _ (HT.out.same (hT1.alloc _)) (HM.out.same (hT1.alloc _)) (ints_one6 _ _ _ ⟨by decide, by decide⟩)).mono ?_
  rintro e1 w2 ⟨rfl, hT2⟩
  rw [HV.out.2.1]
  have hT3 := (hT1.alloc _).trans hT2
  have HB2 := Lib.hid (ClS.same HB.out hT3)
  clear c0 c1 b0 b1 b2 b3 b4 hS
  obtain ⟨c0, c1, b0, b1, b2, b3, b4, hS⟩ := HB2.out
  go_wp2_with fail
  refine (holds6_any P Q G H ra rn rc _ _ _ 1 1 1 1 1 1 [64] [[4]] [4] HU.out.1 HU.out.2 HGR.out _ (HT.out.same (hT3.alloc _)) (HM.out.same (hT3.alloc _)) (ints_one6 _ _ _ ⟨by decide, by decide⟩)).mono ?_
  rintro e1 w3 ⟨rfl, hT4⟩
  rw [HV.out.2.2]
  go_wp2_with fail
  go_ret
  exact ⟨rfl, hS0.trans (hS.trans (((Same.refl _).alloc _).trans hT4))⟩
end Go.Proofs.Ytlnkpbaibnfhhaa
