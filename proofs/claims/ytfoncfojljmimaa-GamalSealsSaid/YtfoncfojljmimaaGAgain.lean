/- gamal.Again: a pair, sealed once more. -/
import Derived.Test.YtfoncfojljmimaaGSeal
set_option linter.unusedVariables false
set_option linter.unusedSimpArgs false
namespace Go.Proofs.Ytfoncfojljmimaa
open Go.RowKit NT
/-- A group, a pair in their boxes, and an empty pair behind them. -/
theorem par_pair2 (w : World) (P Q G H : Int) (ra : Option Addr) (rn rc : Nat) (cu cv : Int) : ∃ W bx cx rx, ((w.alloc (.cells #[.int .u64 P, .int .u64 Q, .int .u64 G, .int .u64 H, .slice ra rn rc] 25)).alloc (.cells #[.int .u64 cu, .int .u64 cv] 27)).alloc (.cells #[.int .u64 0, .int .u64 0] 27) = W ∧ w.heap.size = bx ∧ bx + 1 = cx ∧ cx + 1 = rx ∧
    BoxS w bx P Q G H ra rn rc W ∧ PairAt W cx (.int .u64 cu) (.int .u64 cv) ∧ PairAt W rx (.int .u64 0) (.int .u64 0) := by
  obtain ⟨W1, bx, e1, e2, hS, c0, c1, c2, c3, c4⟩ := par_box w P Q G H (.slice ra rn rc)
  have hz : W1.heap.size = bx + 1 := by rw [← e1, ← e2]; simp
  obtain ⟨W2, e3⟩ : ∃ W2, W1.alloc (.cells #[.int .u64 cu, .int .u64 cv] 27) = W2 := ⟨_, rfl⟩
  have hS1 : Same W1 W2 := by rw [← e3]; exact (Same.refl W1).alloc _
  have hp1 := PairAt.new W1 27 (.int .u64 cu) (.int .u64 cv)
  rw [e3, hz] at hp1
  have hz2 : W2.heap.size = bx + 1 + 1 := by rw [← e3, ← hz]; simp
  have hS2 : Same W2 (W2.alloc (.cells #[.int .u64 0, .int .u64 0] 27)) := (Same.refl W2).alloc _
  have hp2 := PairAt.new W2 27 (.int .u64 0) (.int .u64 0)
  rw [hz2] at hp2
  have hS3 := hS1.trans hS2
  refine ⟨_, bx, bx + 1, bx + 1 + 1, by rw [e1, e3], e2, rfl, rfl, ⟨same_cell hS3 c0, same_cell hS3 c1, same_cell hS3 c2, same_cell hS3 c3, same_cell hS3 c4, hS.trans hS3⟩, hp1.same hS2, hp2⟩
set_option maxHeartbeats 3200000 in
theorem again_any (P Q G H : Int) (ra : Option Addr) (rn rc : Nat) (y cu cv r : Int) (P0 : 0 ≤ P) (Q0 : 0 ≤ Q) (Q1 : Q < 18446744073709551616) (G0 : 0 ≤ G) (y0 : 0 ≤ y) (hu : U64 cu) (hv : U64 cv) (r0 : 0 ≤ r) (r1 : r < 18446744073709551616) (w : World) :
    Calls Try.prog 20 #[.agg #[.int .u64 P, .int .u64 Q, .int .u64 G, .int .u64 H, .slice ra rn rc], .int .u64 y, .agg #[.int .u64 cu, .int .u64 cv], .int .u64 r] w fun z w' => z = .returned (.agg #[.int .u64 (prodI P [expI Q P G r, cu]), .int .u64 (prodI P [cv, expI Q P y r])]) ∧ Same w w' := by
  obtain ⟨W, bx, cx, rx, eW, eb, ec, er, hB, hc, hr⟩ := par_pair2 w P Q G H ra rn rc cu cv
  have EW := Lib.hid eW
  have EB := Lib.hid eb
  have EC := Lib.hid ec
  have ER := Lib.hid er
  clear eW eb ec er
  obtain ⟨x, hx⟩ : ∃ x, expI Q P G r = x := ⟨_, rfl⟩
  have hxu := expI_u Q P G r
  rw [hx] at hxu
  have HX := Lib.hid hx
  obtain ⟨z, hz⟩ : ∃ z, prodI P [cv, expI Q P y r] = z := ⟨_, rfl⟩
  have HZ := Lib.hid hz
  clear hx hz
  go_enter Try.func20, Try.ntmps20
  go_upto_region 1 with fail
  rw [EW.out, EB.out, EC.out, ER.out]
  obtain ⟨b0, b1, b2, b3, b4, hS0⟩ := hB
  obtain ⟨p0, p1, p2, p3⟩ := hc
  go_wp2_with fail
  refine (seal_any P Q G H ra rn rc y cv r P0 Q0 Q1 G0 y0 hv r0 r1 _).mono ?_
  rintro e1 w1 ⟨rfl, hS1⟩
  rw [HX.out, HZ.out]
  replace b0 := same_cell hS1 b0
  replace b1 := same_cell hS1 b1
  replace b2 := same_cell hS1 b2
  replace b3 := same_cell hS1 b3
  replace b4 := same_cell hS1 b4
  replace p0 := same_cell hS1 p0
  have q := hr.same hS1
  clear p1 p2 p3 hr
  obtain ⟨q0, q1, q2, q3⟩ := q
  go_upto_region 2 with fail
  obtain ⟨W2, eW2⟩ : ∃ W2, w1.alloc (.cells #[.int .u64 x, .int .u64 z] 27) = W2 := ⟨_, rfl⟩
  obtain ⟨dx, ed⟩ : ∃ dx, w1.heap.size = dx := ⟨_, rfl⟩
  have hS2 : Same w1 W2 := by rw [← eW2]; exact (Same.refl w1).alloc _
  have hd := PairAt.new w1 27 (.int .u64 x) (.int .u64 z)
  rw [eW2, ed] at hd
  have hdr : dx ≠ rx := by rw [← ed]; exact World.new_ne w1 ⟨rx, 0, none⟩ q0
  have EW2 := Lib.hid eW2
  have ED := Lib.hid ed
  have HDR := Lib.hid hdr
  have HG := Lib.hid (show w.heap.size ≤ dx ∧ w.heap.size ≤ rx by
    have h1 := hS0.size; have h2 := hS1.size; have := EB.out; have := EC.out; have := ER.out; omega)
  clear eW2 ed hdr
  rw [EW2.out, ED.out]
  have hB2 : BoxS w bx P Q G H ra rn rc W2 := BoxS.same (⟨b0, b1, b2, b3, b4, hS0.trans hS1⟩ : BoxS w bx P Q G H ra rn rc w1) hS2
  replace p0 := same_cell hS2 p0
  have hr2 := (PairAt.mk q0 q1 q2 q3).same hS2
  clear q0 q1 q2 q3 b0 b1 b2 b3 b4 hS1 hS2
  obtain ⟨d0, d1, d2, d3⟩ := hd
  obtain ⟨b0, b1, b2, b3, b4, hS3⟩ := hB2
  go_wp2_with fail
  refine (prod_any P Q G H ra rn rc _ 2 2 [x, cu] P0 _ (ints_pair _ _ _ _ hxu hu)).mono ?_
  rintro e1 w3 ⟨rfl, hS4⟩
  obtain ⟨u, hu2⟩ : ∃ u, prodI P [x, cu] = u := ⟨_, rfl⟩
  have HU := Lib.hid hu2
  rw [hu2]
  clear hu2
  have hS5 : Same W2 w3 := ((Same.refl W2).alloc _).trans hS4
  replace hr2 := hr2.same hS5
  have hd := (PairAt.mk d0 d1 d2 d3).same hS5
  have hSS := hS3.trans hS5
  clear d0 d1 d2 d3 b0 b1 b2 b3 b4 p0 hS4
  obtain ⟨d0, d1, d2, d3⟩ := hd
  go_upto_region 3 with fail
  obtain ⟨W4, eW4⟩ : ∃ W4, w3.setCell ⟨dx, 0, none⟩ (.int .u64 u) = W4 := ⟨_, rfl⟩
  have hd4 := (PairAt.mk d0 d1 d2 d3).set0 (.int .u64 u)
  have hr4 := hr2.far (o := 0) HDR.out (.int .u64 u)
  have hS6 := Below.setCell hSS (p := ⟨dx, 0, none⟩) HG.out.1 (.int .u64 u)
  rw [eW4] at hd4 hr4 hS6 ⊢
  clear eW4 d0 d1 d2 d3 hr2 hSS hS5
  obtain ⟨d0, d1, d2, d3⟩ := hd4
  have hr5 := (hr4.set0 (.int .u64 u)).set1 (.int .u64 z)
  have hS7 := Below.setCell (Below.setCell hS6 (p := ⟨rx, 0, none⟩) HG.out.2 (.int .u64 u)) (p := ⟨rx, 1, none⟩) HG.out.2 (.int .u64 z)
  have HR5 := Lib.hid hr5
  obtain ⟨q0, q1, q2, q3⟩ := hr4
  clear hr5
  go_wp2_with fail
  obtain ⟨q0, q1, q2, q3⟩ := HR5.out
  refine bodyPost_ret (by simp [results, Try.results20, go_sem, q0, q1]; try rfl) rfl ?_
  exact ⟨by rw [HX.out, HZ.out, HU.out], hS7⟩
end Go.Proofs.Ytfoncfojljmimaa
