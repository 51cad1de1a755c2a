/- The small group that the laws' awake makes: it is right. -/
import Derived.Test.YtfoncfojljmimaaSeven
import Derived.Test.YtfoncfojljmimaaGrpB
import Derived.Handy
set_option linter.unusedVariables false
set_option linter.unusedSimpArgs false
namespace Go.Proofs.Ytfoncfojljmimaa
open Go.RowKit NT
def rs4 : List RowD := [⟨5, 2, [2]⟩, ⟨11, 2, [2, 5]⟩, ⟨23, 5, [2, 11]⟩, ⟨1013, 3, [2, 11, 23]⟩, ⟨2027, 2, [2, 1013]⟩]
theorem strip4_2_4 : strip 2 4 = 1 := by rw [strip_step (by omega) (by omega) rfl, strip_step (by omega) (by omega) rfl, strip_end (by decide)]
theorem strip4_2_10 : strip 2 10 = 5 := by rw [strip_step (by omega) (by omega) rfl, strip_end (by decide)]
theorem strip4_5_5 : strip 5 5 = 1 := by rw [strip_step (by omega) (by omega) rfl, strip_end (by decide)]
theorem strip4_2_22 : strip 2 22 = 11 := by rw [strip_step (by omega) (by omega) rfl, strip_end (by decide)]
theorem strip4_11_11 : strip 11 11 = 1 := by rw [strip_step (by omega) (by omega) rfl, strip_end (by decide)]
theorem strip4_2_1012 : strip 2 1012 = 253 := by rw [strip_step (by omega) (by omega) rfl, strip_step (by omega) (by omega) rfl, strip_end (by decide)]
theorem strip4_11_253 : strip 11 253 = 23 := by rw [strip_step (by omega) (by omega) rfl, strip_end (by decide)]
theorem strip4_23_23 : strip 23 23 = 1 := by rw [strip_step (by omega) (by omega) rfl, strip_end (by decide)]
theorem strip4_2_2026 : strip 2 2026 = 1013 := by rw [strip_step (by omega) (by omega) rfl, strip_end (by decide)]
theorem strip4_1013_1013 : strip 1013 1013 = 1 := by rw [strip_step (by omega) (by omega) rfl, strip_end (by decide)]
theorem fac_step {S : Int → Prop} {r : RowD} {left last f : Int} {fs : List Int} (l' : Nat) (h1 : last < f) (h2 : S f) (h3 : left % f = 0) (h4 : powI r.a ((r.n - 1) / f) r.n ≠ 1)
    (h5 : strip f.toNat left.toNat = l') (h6 : FacOk S r l' f fs) : FacOk S r left last (f :: fs) := ⟨h1, h2, h3, h4, by rw [h5]; exact h6⟩
theorem powI_ne {a e n : Nat} (v : Nat) (h2 : 2 ≤ n) (h1 : n ≤ 4611686018427387904) (h : a ^ e % n = v) (hv : v ≠ 1) : powI (a : Int) (e : Int) (n : Int) ≠ 1 := by
  rw [powI_num v h2 h1 h]; omega
theorem pw4_2_2_5 : 2 ^ 2 % 5 = 4 := by kernel_rfl
theorem pw4_2_4_5 : 2 ^ 4 % 5 = 1 := by kernel_rfl
theorem pw4_2_5_11 : 2 ^ 5 % 11 = 10 := by kernel_rfl
theorem pw4_2_2_11 : 2 ^ 2 % 11 = 4 := by kernel_rfl
theorem pw4_2_10_11 : 2 ^ 10 % 11 = 1 := by kernel_rfl
theorem pw4_5_11_23 : 5 ^ 11 % 23 = 22 := by kernel_rfl
theorem pw4_5_2_23 : 5 ^ 2 % 23 = 2 := by kernel_rfl
theorem pw4_5_22_23 : 5 ^ 22 % 23 = 1 := by kernel_rfl
theorem pw4_3_506_1013 : 3 ^ 506 % 1013 = 1012 := by kernel_rfl
theorem pw4_3_92_1013 : 3 ^ 92 % 1013 = 122 := by kernel_rfl
theorem pw4_3_44_1013 : 3 ^ 44 % 1013 = 586 := by kernel_rfl
theorem pw4_3_1012_1013 : 3 ^ 1012 % 1013 = 1 := by kernel_rfl
theorem pw4_2_1013_2027 : 2 ^ 1013 % 2027 = 2026 := by kernel_rfl
theorem pw4_2_2_2027 : 2 ^ 2 % 2027 = 4 := by kernel_rfl
theorem pw4_2_2026_2027 : 2 ^ 2026 % 2027 = 1 := by kernel_rfl
theorem pw4_4_1013_2027 : 4 ^ 1013 % 2027 = 1 := by kernel_rfl
theorem pw4_9_1013_2027 : 9 ^ 1013 % 2027 = 1 := by kernel_rfl
theorem row4_0 : RowOk (Kn rs4 0) ⟨5, 2, [2]⟩ := by
  refine ⟨by decide, by decide, by decide, by decide, powI_num (a := 2) (e := 4) (n := 5) 1 (by omega) (by omega) pw4_2_4_5, ?_⟩
  refine fac_step 1 (by decide) (.inl rfl) (by decide) (powI_ne (a := 2) (e := 2) (n := 5) 4 (by omega) (by omega) pw4_2_2_5 (by decide)) strip4_2_4 ?_
  rfl
theorem row4_1 : RowOk (Kn rs4 1) ⟨11, 2, [2, 5]⟩ := by
  refine ⟨by decide, by decide, by decide, by decide, powI_num (a := 2) (e := 10) (n := 11) 1 (by omega) (by omega) pw4_2_10_11, ?_⟩
  refine fac_step 5 (by decide) (.inl rfl) (by decide) (powI_ne (a := 2) (e := 5) (n := 11) 10 (by omega) (by omega) pw4_2_5_11 (by decide)) strip4_2_10 ?_
  refine fac_step 1 (by decide) (.inr ⟨0, by omega, rfl⟩) (by decide) (powI_ne (a := 2) (e := 2) (n := 11) 4 (by omega) (by omega) pw4_2_2_11 (by decide)) strip4_5_5 ?_
  rfl
theorem row4_2 : RowOk (Kn rs4 2) ⟨23, 5, [2, 11]⟩ := by
  refine ⟨by decide, by decide, by decide, by decide, powI_num (a := 5) (e := 22) (n := 23) 1 (by omega) (by omega) pw4_5_22_23, ?_⟩
  refine fac_step 11 (by decide) (.inl rfl) (by decide) (powI_ne (a := 5) (e := 11) (n := 23) 22 (by omega) (by omega) pw4_5_11_23 (by decide)) strip4_2_22 ?_
  refine fac_step 1 (by decide) (.inr ⟨1, by omega, rfl⟩) (by decide) (powI_ne (a := 5) (e := 2) (n := 23) 2 (by omega) (by omega) pw4_5_2_23 (by decide)) strip4_11_11 ?_
  rfl
theorem row4_3 : RowOk (Kn rs4 3) ⟨1013, 3, [2, 11, 23]⟩ := by
  refine ⟨by decide, by decide, by decide, by decide, powI_num (a := 3) (e := 1012) (n := 1013) 1 (by omega) (by omega) pw4_3_1012_1013, ?_⟩
  refine fac_step 253 (by decide) (.inl rfl) (by decide) (powI_ne (a := 3) (e := 506) (n := 1013) 1012 (by omega) (by omega) pw4_3_506_1013 (by decide)) strip4_2_1012 ?_
  refine fac_step 23 (by decide) (.inr ⟨1, by omega, rfl⟩) (by decide) (powI_ne (a := 3) (e := 92) (n := 1013) 122 (by omega) (by omega) pw4_3_92_1013 (by decide)) strip4_11_253 ?_
  refine fac_step 1 (by decide) (.inr ⟨2, by omega, rfl⟩) (by decide) (powI_ne (a := 3) (e := 44) (n := 1013) 586 (by omega) (by omega) pw4_3_44_1013 (by decide)) strip4_23_23 ?_
  rfl
theorem row4_4 : RowOk (Kn rs4 4) ⟨2027, 2, [2, 1013]⟩ := by
  refine ⟨by decide, by decide, by decide, by decide, powI_num (a := 2) (e := 2026) (n := 2027) 1 (by omega) (by omega) pw4_2_2026_2027, ?_⟩
  refine fac_step 1013 (by decide) (.inl rfl) (by decide) (powI_ne (a := 2) (e := 1013) (n := 2027) 2026 (by omega) (by omega) pw4_2_1013_2027 (by decide)) strip4_2_2026 ?_
  refine fac_step 1 (by decide) (.inr ⟨3, by omega, rfl⟩) (by decide) (powI_ne (a := 2) (e := 2) (n := 2027) 4 (by omega) (by omega) pw4_2_2_2027 (by decide)) strip4_1013_1013 ?_
  rfl
theorem ok4 : AllOk rs4 := by
  refine ⟨by decide, fun j hj => ?_⟩
  have hj' : j < 5 := hj
  match j, hj' with
  | 0, _ => exact row4_0
  | 1, _ => exact row4_1
  | 2, _ => exact row4_2
  | 3, _ => exact row4_3
  | 4, _ => exact row4_4
theorem in4_4 : InP 2027 1013 4 := ⟨by decide, by decide, powI_num (a := 4) (e := 1013) (n := 2027) 1 (by omega) (by omega) pw4_4_1013_2027⟩
theorem in4_9 : InP 2027 1013 9 := ⟨by decide, by decide, powI_num (a := 9) (e := 1013) (n := 2027) 1 (by omega) (by omega) pw4_9_1013_2027⟩
theorem right4 : RightP 2027 1013 4 9 rs4 := ⟨by decide, by decide, by decide, ⟨ok4, .inr ⟨4, by decide, rfl⟩⟩, ⟨ok4, .inr ⟨3, by decide, rfl⟩⟩, in4_4, in4_9, by decide, by decide, by decide⟩
theorem ints_alloc (w : World) (k : Nat) (hk : w.heap.size = k) (xs : List Int) (hu : ∀ j, U64 (xs.getD j 0)) (hs : xs.length ≤ 16) (arr : Array Value) (ha : ∀ j, j < xs.length → arr[j]? = some (.int .u64 (xs.getD j 0))) (t : TypeId) :
    IntsAt (w.alloc (.cells arr t)) (some ⟨k, 0, none⟩) xs.length xs ∧ Same w (w.alloc (.cells arr t)) ∧ (w.alloc (.cells arr t)).heap.size = k + 1 := by
  subst hk
  exact ⟨ints_lit (fun j hj => by rw [World.cell?_alloc_new]; exact ha j hj) hu hs, (Same.refl w).alloc _, by simp⟩
theorem small4_any (w : World) : Calls Try.prog 31 #[] w fun z w' => ∃ a, z = .returned (.agg #[.int .u64 2027, .int .u64 1013, .int .u64 4, .int .u64 9, .slice a 5 5]) ∧ RowsAt w' a 5 rs4 ∧ Same w w' := by
  go_enter Try.func31, Try.ntmps31
  go_wp2_with fail
  go_returns
  refine ⟨_, rfl, ?_⟩
  obtain ⟨w0, h0, S0⟩ : ∃ w0, w0 = w.alloc (.cells #[.int .u64 2027, .int .u64 1013, .int .u64 4, .int .u64 9, .slice (some ⟨w.heap.size + 1 + 1 + 1 + 1 + 1 + 1, 0, none⟩) 5 5] 25) ∧ Same w w0 := ⟨_, rfl, (Same.refl w).alloc _⟩
  have z0 : w0.heap.size = w.heap.size + 1 := by rw [h0]; simp
  rw [← h0]
  obtain ⟨z, hz⟩ : ∃ z, w.heap.size = z := ⟨_, rfl⟩
  rw [hz] at z0
  rw [hz]
  clear h0
  obtain ⟨i1, s1, z1⟩ := ints_alloc w0 (z + 1) z0 [2] (fun j => by match j with | 0 => exact ⟨by decide, by decide⟩ | _ + 1 => exact ⟨by simp, by simp⟩) (by decide) #[.int .u64 2] (fun j hj => by match j, hj with | 0, _ => rfl) 22
  obtain ⟨w1, h1⟩ : ∃ w1, w0.alloc (.cells #[.int .u64 2] 22) = w1 := ⟨_, rfl⟩
  rw [h1] at i1 s1 z1
  rw [h1]
  clear h1
  obtain ⟨i2, s2, z2⟩ := ints_alloc w1 (z + 1 + 1) z1 [2, 5] (fun j => by match j with | 0 => exact ⟨by decide, by decide⟩ | 1 => exact ⟨by decide, by decide⟩ | _ + 2 => exact ⟨by simp, by simp⟩) (by decide) #[.int .u64 2, .int .u64 5] (fun j hj => by match j, hj with | 0, _ => rfl | 1, _ => rfl) 22
  obtain ⟨w2, h2⟩ : ∃ w2, w1.alloc (.cells #[.int .u64 2, .int .u64 5] 22) = w2 := ⟨_, rfl⟩
  rw [h2] at i2 s2 z2
  rw [h2]
  clear h2
  obtain ⟨i3, s3, z3⟩ := ints_alloc w2 (z + 1 + 1 + 1) z2 [2, 11] (fun j => by match j with | 0 => exact ⟨by decide, by decide⟩ | 1 => exact ⟨by decide, by decide⟩ | _ + 2 => exact ⟨by simp, by simp⟩) (by decide) #[.int .u64 2, .int .u64 11] (fun j hj => by match j, hj with | 0, _ => rfl | 1, _ => rfl) 22
  obtain ⟨w3, h3⟩ : ∃ w3, w2.alloc (.cells #[.int .u64 2, .int .u64 11] 22) = w3 := ⟨_, rfl⟩
  rw [h3] at i3 s3 z3
  rw [h3]
  clear h3
  obtain ⟨i4, s4, z4⟩ := ints_alloc w3 (z + 1 + 1 + 1 + 1) z3 [2, 11, 23] (fun j => by match j with | 0 => exact ⟨by decide, by decide⟩ | 1 => exact ⟨by decide, by decide⟩ | 2 => exact ⟨by decide, by decide⟩ | _ + 3 => exact ⟨by simp, by simp⟩) (by decide) #[.int .u64 2, .int .u64 11, .int .u64 23] (fun j hj => by match j, hj with | 0, _ => rfl | 1, _ => rfl | 2, _ => rfl) 22
  obtain ⟨w4, h4⟩ : ∃ w4, w3.alloc (.cells #[.int .u64 2, .int .u64 11, .int .u64 23] 22) = w4 := ⟨_, rfl⟩
  rw [h4] at i4 s4 z4
  rw [h4]
  clear h4
  obtain ⟨i5, s5, z5⟩ := ints_alloc w4 (z + 1 + 1 + 1 + 1 + 1) z4 [2, 1013] (fun j => by match j with | 0 => exact ⟨by decide, by decide⟩ | 1 => exact ⟨by decide, by decide⟩ | _ + 2 => exact ⟨by simp, by simp⟩) (by decide) #[.int .u64 2, .int .u64 1013] (fun j hj => by match j, hj with | 0, _ => rfl | 1, _ => rfl) 22
  obtain ⟨w5, h5⟩ : ∃ w5, w4.alloc (.cells #[.int .u64 2, .int .u64 1013] 22) = w5 := ⟨_, rfl⟩
  rw [h5] at i5 s5 z5
  rw [h5]
  clear h5
  obtain ⟨O, hO⟩ : ∃ O, O = Obj.cells #[.int .u64 5, .int .u64 2, .slice (some ⟨z + 1, 0, none⟩) 1 1, .int .u64 11, .int .u64 2, .slice (some ⟨z + 1 + 1, 0, none⟩) 2 2, .int .u64 23, .int .u64 5, .slice (some ⟨z + 1 + 1 + 1, 0, none⟩) 2 2, .int .u64 1013, .int .u64 3, .slice (some ⟨z + 1 + 1 + 1 + 1, 0, none⟩) 3 3, .int .u64 2027, .int .u64 2, .slice (some ⟨z + 1 + 1 + 1 + 1 + 1, 0, none⟩) 2 2] 57 := ⟨_, rfl⟩
  rw [← hO]
  have S9 : Same w5 (w5.alloc O) := (Same.refl w5).alloc _
  refine ⟨⟨rfl, by decide, fun _ => ⟨z + 1 + 1 + 1 + 1 + 1 + 1, 0, rfl, fun j hj => ?_⟩⟩, S0 |>.trans s1 |>.trans s2 |>.trans s3 |>.trans s4 |>.trans s5 |>.trans S9⟩
  rw [← z5]
  match j, hj with
  | 0, _ => exact ⟨by rw [hO]; simp [World.cell?_alloc_new, rs4], by rw [hO]; simp [World.cell?_alloc_new, rs4], ⟨some ⟨z + 1, 0, none⟩, 1, 1, by rw [hO]; simp [World.cell?_alloc_new], ((((i1.same s2).same s3).same s4).same s5).same S9⟩, ⟨by decide, by decide⟩, ⟨by decide, by decide⟩⟩
  | 1, _ => exact ⟨by rw [hO]; simp [World.cell?_alloc_new, rs4], by rw [hO]; simp [World.cell?_alloc_new, rs4], ⟨some ⟨z + 1 + 1, 0, none⟩, 2, 2, by rw [hO]; simp [World.cell?_alloc_new], (((i2.same s3).same s4).same s5).same S9⟩, ⟨by decide, by decide⟩, ⟨by decide, by decide⟩⟩
  | 2, _ => exact ⟨by rw [hO]; simp [World.cell?_alloc_new, rs4], by rw [hO]; simp [World.cell?_alloc_new, rs4], ⟨some ⟨z + 1 + 1 + 1, 0, none⟩, 2, 2, by rw [hO]; simp [World.cell?_alloc_new], ((i3.same s4).same s5).same S9⟩, ⟨by decide, by decide⟩, ⟨by decide, by decide⟩⟩
  | 3, _ => exact ⟨by rw [hO]; simp [World.cell?_alloc_new, rs4], by rw [hO]; simp [World.cell?_alloc_new, rs4], ⟨some ⟨z + 1 + 1 + 1 + 1, 0, none⟩, 3, 3, by rw [hO]; simp [World.cell?_alloc_new], (i4.same s5).same S9⟩, ⟨by decide, by decide⟩, ⟨by decide, by decide⟩⟩
  | 4, _ => exact ⟨by rw [hO]; simp [World.cell?_alloc_new, rs4], by rw [hO]; simp [World.cell?_alloc_new, rs4], ⟨some ⟨z + 1 + 1 + 1 + 1 + 1, 0, none⟩, 2, 2, by rw [hO]; simp [World.cell?_alloc_new], i5.same S9⟩, ⟨by decide, by decide⟩, ⟨by decide, by decide⟩⟩
end Go.Proofs.Ytfoncfojljmimaa
