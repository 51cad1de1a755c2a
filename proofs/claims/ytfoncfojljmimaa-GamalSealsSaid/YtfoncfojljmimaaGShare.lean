/- gamal.Share, Open, Enter, Leave. -/
import Derived.Test.YtfoncfojljmimaaGAgain
import Derived.Test.YtfoncfojljmimaaGrpOver
set_option linter.unusedVariables false
set_option linter.unusedSimpArgs false
namespace Go.Proofs.Ytfoncfojljmimaa
open Go.RowKit NT
/-- A group and a pair in their boxes. -/
theorem par_gc (w : World) (P Q G H : Int) (ra : Option Addr) (rn rc : Nat) (cu cv : Int) : ∃ W bx cx, (w.alloc (.cells #[.int .u64 P, .int .u64 Q, .int .u64 G, .int .u64 H, .slice ra rn rc] 25)).alloc (.cells #[.int .u64 cu, .int .u64 cv] 27) = W ∧ w.heap.size = bx ∧ bx + 1 = cx ∧
    BoxS w bx P Q G H ra rn rc W ∧ PairAt W cx (.int .u64 cu) (.int .u64 cv) := by
  obtain ⟨W1, bx, e1, e2, hS, c0, c1, c2, c3, c4⟩ := par_box w P Q G H (.slice ra rn rc)
  have hz : W1.heap.size = bx + 1 := by rw [← e1, ← e2]; simp
  have hS1 : Same W1 (W1.alloc (.cells #[.int .u64 cu, .int .u64 cv] 27)) := (Same.refl W1).alloc _
  have hp1 := PairAt.new W1 27 (.int .u64 cu) (.int .u64 cv)
  rw [hz] at hp1
  exact ⟨_, bx, bx + 1, by rw [e1], e2, rfl, ⟨same_cell hS1 c0, same_cell hS1 c1, same_cell hS1 c2, same_cell hS1 c3, same_cell hS1 c4, hS.trans hS1⟩, hp1⟩
theorem share_any (P Q G H : Int) (ra : Option Addr) (rn rc : Nat) (x cu cv : Int) (P0 : 0 ≤ P) (Q0 : 0 ≤ Q) (Q1 : Q < 18446744073709551616) (u0 : 0 ≤ cu) (x0 : 0 ≤ x) (x1 : x < 18446744073709551616) (w : World) :
    Calls Try.prog 14 #[.agg #[.int .u64 P, .int .u64 Q, .int .u64 G, .int .u64 H, .slice ra rn rc], .int .u64 x, .agg #[.int .u64 cu, .int .u64 cv]] w fun z w' => z = .returned (.int .u64 (expI Q P cu x)) ∧ Same w w' := by
  obtain ⟨W, bx, cx, eW, eb, ec, hB, hc⟩ := par_gc w P Q G H ra rn rc cu cv
  have EW := Lib.hid eW
  have EB := Lib.hid eb
  have EC := Lib.hid ec
  clear eW eb ec
  go_enter Try.func14, Try.ntmps14
  go_upto_region 1 with fail
  rw [EW.out, EB.out, EC.out]
  obtain ⟨b0, b1, b2, b3, b4, hS⟩ := hB
  obtain ⟨p0, p1, p2, p3⟩ := hc
  go_wp2_with fail
  refine (exp_any P Q G H ra rn rc cu x P0 Q0 Q1 u0 x0 x1 _).mono ?_
  rintro e1 w1 ⟨rfl, hS1⟩
  go_wp2_with fail
  go_ret
  exact ⟨rfl, hS.trans hS1⟩
/-- the box, and a pair in its own -/
abbrev BoxC (W0 : World) (bx cx : Nat) (P Q G H : Int) (ra : Option Addr) (rn rc : Nat) (cu cv : Int) (w : World) : Prop :=
  w.cell? ⟨cx, 0, none⟩ = some (.int .u64 cu) ∧ w.cell? ⟨cx, 1, none⟩ = some (.int .u64 cv) ∧ BoxS W0 bx P Q G H ra rn rc w
theorem BoxC.same {W0 w w' : World} {bx cx : Nat} {P Q G H : Int} {ra : Option Addr} {rn rc : Nat} {cu cv : Int} (h : BoxC W0 bx cx P Q G H ra rn rc cu cv w) (hs : Same w w') : BoxC W0 bx cx P Q G H ra rn rc cu cv w' :=
  ⟨same_cell hs h.1, same_cell hs h.2.1, h.2.2.same hs⟩
theorem open_any (P Q G H : Int) (ra : Option Addr) (rn rc : Nat) (cu cv : Int) (a : Option Addr) (n cap : Nat) (xs : List Int) (P0 : 0 ≤ P) (v0 : 0 ≤ cv) (w : World) (h : IntsAt w a n xs) :
    Calls Try.prog 13 #[.agg #[.int .u64 P, .int .u64 Q, .int .u64 G, .int .u64 H, .slice ra rn rc], .agg #[.int .u64 cu, .int .u64 cv], .slice a n cap] w fun z w' => z = .returned (.int .u64 (overI P cv (prodI P xs))) ∧ Same w w' := by
  obtain ⟨W, bx, cx, eW, eb, ec, hB, hc⟩ := par_gc w P Q G H ra rn rc cu cv
  have EW := Lib.hid eW
  have EB := Lib.hid eb
  have EC := Lib.hid ec
  have H1 := Lib.hid (h.same (hB.base.trans (drew_same W)))
  have hB0 : BoxC w bx cx P Q G H ra rn rc cu cv W := ⟨hc.u, hc.v, hB⟩
  have HB0 := Lib.hid (hB0.same (drew_same W))
  clear eW eb ec hB hc hB0 h
  obtain ⟨y, hy⟩ : ∃ y, prodI P xs = y := ⟨_, rfl⟩
  have hy0 := (prodI_u P xs).1
  rw [hy] at hy0 ⊢
  have HY := Lib.hid hy
  clear hy
  go_enter Try.func13, Try.ntmps13
  go_upto_region 1 with fail
  rw [EW.out, EB.out, EC.out]
  go_region_held3 (fun w' => BoxC w bx cx P Q G H ra rn rc cu cv w')
    (first
      | exact HB0.out
      | (with_reducible refine BoxC.same (by assumption) ?_; with_reducible assumption)
      | assumption
      | go_keep)
    (first
      | (go_at_call 35; refine (prod_any P Q G H ra rn rc a n cap xs P0 _ H1.out).mono ?_; rintro e1 w3 ⟨rfl, hT3⟩; rw [HY.out])
      | (go_at_call 34; refine (over_any P Q G H ra rn rc cv y P0 v0 hy0 _).mono ?_; rintro e1 w4 ⟨rfl, hT4⟩))
  go_wp2_with fail
  go_ret
  rename_i hHeld
  exact ⟨rfl, hHeld.2.2.base⟩
/-- Three fields in a box, not frozen. -/
structure ThreeAt (w : World) (b : Nat) (u x v : Value) : Prop where
  u : w.cell? ⟨b, 0, none⟩ = some u
  x : w.cell? ⟨b, 1, none⟩ = some x
  v : w.cell? ⟨b, 2, none⟩ = some v
  fu : w.frozen? ⟨b, 0, none⟩ = false
  fx : w.frozen? ⟨b, 1, none⟩ = false
  fv : w.frozen? ⟨b, 2, none⟩ = false
theorem ThreeAt.same {w w' : World} {b : Nat} {u x v : Value} (h : ThreeAt w b u x v) (hs : Same w w') : ThreeAt w' b u x v :=
  ⟨same_cell hs h.u, same_cell hs h.x, same_cell hs h.v, same_frozen hs h.u h.fu, same_frozen hs h.x h.fx, same_frozen hs h.v h.fv⟩
theorem ThreeAt.new (w : World) (t : TypeId) (u x v : Value) : ThreeAt (w.alloc (.cells #[u, x, v] t)) w.heap.size u x v :=
  ⟨by simp [World.cell?_alloc_new], by simp [World.cell?_alloc_new], by simp [World.cell?_alloc_new], by simp [World.frozen?_alloc_new], by simp [World.frozen?_alloc_new], by simp [World.frozen?_alloc_new]⟩
theorem ThreeAt.put {w : World} {b : Nat} {u x v : Value} (h : ThreeAt w b u x v) (a c d : Value) : ThreeAt (((w.setCell ⟨b, 0, none⟩ a).setCell ⟨b, 1, none⟩ c).setCell ⟨b, 2, none⟩ d) b a c d :=
  ⟨(World.cell?_setCell_other _ _ _ _ (by simp)).trans ((World.cell?_setCell_other _ _ _ _ (by simp)).trans (World.cell?_setCell_same _ _ _ h.u)),
   (World.cell?_setCell_other _ _ _ _ (by simp)).trans (World.cell?_setCell_same _ _ _ ((World.cell?_setCell_other _ _ _ _ (by simp)).trans h.x)),
   World.cell?_setCell_same _ _ _ ((World.cell?_setCell_other _ _ _ _ (by simp)).trans ((World.cell?_setCell_other _ _ _ _ (by simp)).trans h.v)),
   by simp [h.fu], by simp [h.fx], by simp [h.fv]⟩
theorem PairAt.put {w : World} {b : Nat} {u v : Value} (h : PairAt w b u v) (a c : Value) : PairAt ((w.setCell ⟨b, 0, none⟩ a).setCell ⟨b, 1, none⟩ c) b a c := (h.set0 a).set1 c
theorem enter_any (cu cv : Int) (w : World) :
    Calls Try.prog 26 #[.agg #[.int .u64 cu, .int .u64 cv]] w fun z w' => z = .returned (.agg #[.int .u64 cu, .int .u64 1, .int .u64 cv]) ∧ Same w w' := by
  obtain ⟨W1, e1⟩ : ∃ W1, w.alloc (.cells #[.int .u64 cu, .int .u64 cv] 27) = W1 := ⟨_, rfl⟩
  obtain ⟨cb, e2⟩ : ∃ cb, w.heap.size = cb := ⟨_, rfl⟩
  have hS1 : Same w W1 := by rw [← e1]; exact (Same.refl w).alloc _
  have h1 := PairAt.new w 27 (.int .u64 cu) (.int .u64 cv)
  rw [e1, e2] at h1
  have hz : W1.heap.size = cb + 1 := by rw [← e1, ← e2]; simp
  obtain ⟨W2, e3⟩ : ∃ W2, W1.alloc (.cells #[.int .u64 0, .int .u64 0, .int .u64 0] 49) = W2 := ⟨_, rfl⟩
  obtain ⟨rx, e4⟩ : ∃ rx, cb + 1 = rx := ⟨_, rfl⟩
  have h2 := ThreeAt.new W1 49 (.int .u64 0) (.int .u64 0) (.int .u64 0)
  rw [hz, e3, e4] at h2
  have hSa : Same W1 W2 := by rw [← e3]; exact (Same.refl W1).alloc _
  have hS2 := hS1.trans hSa
  replace h1 := h1.same hSa
  have E1 := Lib.hid e1
  have E2 := Lib.hid e2
  have E3 := Lib.hid e3
  have E4 := Lib.hid e4
  have HG := Lib.hid (show w.heap.size ≤ rx by omega)
  have HP := Lib.hid (h2.put (.int .u64 cu) (.int .u64 1) (.int .u64 cv))
  clear e1 e2 e3 e4 hz hS1 hSa
  go_enter Try.func26, Try.ntmps26
  go_upto_region 1 with fail
  rw [E1.out, E2.out, E3.out, E4.out]
  obtain ⟨c0, c1, c2, c3⟩ := h1
  obtain ⟨d0, d1, d2, d3, d4, d5⟩ := h2
  go_wp2_with fail
  obtain ⟨q0, q1, q2, q3, q4, q5⟩ := HP.out
  refine bodyPost_ret (by simp [results, Try.results26, go_sem, q0, q1, q2]; try rfl) rfl ?_
  exact ⟨rfl, Below.setCell (Below.setCell (Below.setCell hS2 (p := ⟨rx, 0, none⟩) HG.out _) (p := ⟨rx, 1, none⟩) HG.out _) (p := ⟨rx, 2, none⟩) HG.out _⟩
theorem leave_any (cu cx cv : Int) (w : World) :
    Calls Try.prog 28 #[.agg #[.int .u64 cu, .int .u64 cx, .int .u64 cv]] w fun z w' => z = .returned (.agg #[.int .u64 cx, .int .u64 cv]) ∧ Same w w' := by
  obtain ⟨W1, e1⟩ : ∃ W1, w.alloc (.cells #[.int .u64 cu, .int .u64 cx, .int .u64 cv] 49) = W1 := ⟨_, rfl⟩
  obtain ⟨cb, e2⟩ : ∃ cb, w.heap.size = cb := ⟨_, rfl⟩
  have hS1 : Same w W1 := by rw [← e1]; exact (Same.refl w).alloc _
  have h1 := ThreeAt.new w 49 (.int .u64 cu) (.int .u64 cx) (.int .u64 cv)
  rw [e1, e2] at h1
  have hz : W1.heap.size = cb + 1 := by rw [← e1, ← e2]; simp
  obtain ⟨W2, e3⟩ : ∃ W2, W1.alloc (.cells #[.int .u64 0, .int .u64 0] 27) = W2 := ⟨_, rfl⟩
  obtain ⟨rx, e4⟩ : ∃ rx, cb + 1 = rx := ⟨_, rfl⟩
  have h2 := PairAt.new W1 27 (.int .u64 0) (.int .u64 0)
  rw [hz, e3, e4] at h2
  have hSa : Same W1 W2 := by rw [← e3]; exact (Same.refl W1).alloc _
  have hS2 := hS1.trans hSa
  replace h1 := h1.same hSa
  have E1 := Lib.hid e1
  have E2 := Lib.hid e2
  have E3 := Lib.hid e3
  have E4 := Lib.hid e4
  have HG := Lib.hid (show w.heap.size ≤ rx by omega)
  have HP := Lib.hid (h2.put (.int .u64 cx) (.int .u64 cv))
  clear e1 e2 e3 e4 hz hS1 hSa
  go_enter Try.func28, Try.ntmps28
  go_upto_region 1 with fail
  rw [E1.out, E2.out, E3.out, E4.out]
  obtain ⟨c0, c1, c2, c3, c4, c5⟩ := h1
  obtain ⟨d0, d1, d2, d3⟩ := h2
  go_wp2_with fail
  obtain ⟨q0, q1, q2, q3⟩ := HP.out
  refine bodyPost_ret (by simp [results, Try.results28, go_sem, q0, q1]; try rfl) rfl ?_
  exact ⟨rfl, Below.setCell (Below.setCell hS2 (p := ⟨rx, 0, none⟩) HG.out _) (p := ⟨rx, 1, none⟩) HG.out _⟩
theorem renter_any (cu cv : Int) (w : World) :
    Calls Try.prog 27 #[.agg #[.int .u64 cu, .int .u64 cv]] w fun z w' => z = .returned (.agg #[.int .u64 cu, .int .u64 1, .int .u64 cv]) ∧ Same w w' := by
  obtain ⟨W1, e1⟩ : ∃ W1, w.alloc (.cells #[.int .u64 cu, .int .u64 cv] 27) = W1 := ⟨_, rfl⟩
  obtain ⟨cb, e2⟩ : ∃ cb, w.heap.size = cb := ⟨_, rfl⟩
  have hS1 : Same w W1 := by rw [← e1]; exact (Same.refl w).alloc _
  have h1 := PairAt.new w 27 (.int .u64 cu) (.int .u64 cv)
  rw [e1, e2] at h1
  have hz : W1.heap.size = cb + 1 := by rw [← e1, ← e2]; simp
  obtain ⟨W2, e3⟩ : ∃ W2, W1.alloc (.cells #[.int .u64 0, .int .u64 0, .int .u64 0] 49) = W2 := ⟨_, rfl⟩
  obtain ⟨rx, e4⟩ : ∃ rx, cb + 1 = rx := ⟨_, rfl⟩
  have h2 := ThreeAt.new W1 49 (.int .u64 0) (.int .u64 0) (.int .u64 0)
  rw [hz, e3, e4] at h2
  have hSa : Same W1 W2 := by rw [← e3]; exact (Same.refl W1).alloc _
  have hS2 := hS1.trans hSa
  replace h1 := h1.same hSa
  have E1 := Lib.hid e1
  have E2 := Lib.hid e2
  have E3 := Lib.hid e3
  have E4 := Lib.hid e4
  have HG := Lib.hid (show w.heap.size ≤ rx by omega)
  have HP := Lib.hid (h2.put (.int .u64 cu) (.int .u64 1) (.int .u64 cv))
  clear e1 e2 e3 e4 hz hS1 hSa
  go_enter Try.func27, Try.ntmps27
  go_upto_region 1 with fail
  rw [E1.out, E2.out, E3.out, E4.out]
  obtain ⟨c0, c1, c2, c3⟩ := h1
  obtain ⟨d0, d1, d2, d3, d4, d5⟩ := h2
  go_wp2_with fail
  obtain ⟨q0, q1, q2, q3, q4, q5⟩ := HP.out
  refine bodyPost_ret (by simp [results, Try.results27, go_sem, q0, q1, q2]; try rfl) rfl ?_
  exact ⟨rfl, Below.setCell (Below.setCell (Below.setCell hS2 (p := ⟨rx, 0, none⟩) HG.out _) (p := ⟨rx, 1, none⟩) HG.out _) (p := ⟨rx, 2, none⟩) HG.out _⟩
theorem rleave_any (cu cx cv : Int) (w : World) :
    Calls Try.prog 29 #[.agg #[.int .u64 cu, .int .u64 cx, .int .u64 cv]] w fun z w' => z = .returned (.agg #[.int .u64 cx, .int .u64 cv]) ∧ Same w w' := by
  obtain ⟨W1, e1⟩ : ∃ W1, w.alloc (.cells #[.int .u64 cu, .int .u64 cx, .int .u64 cv] 49) = W1 := ⟨_, rfl⟩
  obtain ⟨cb, e2⟩ : ∃ cb, w.heap.size = cb := ⟨_, rfl⟩
  have hS1 : Same w W1 := by rw [← e1]; exact (Same.refl w).alloc _
  have h1 := ThreeAt.new w 49 (.int .u64 cu) (.int .u64 cx) (.int .u64 cv)
  rw [e1, e2] at h1
  have hz : W1.heap.size = cb + 1 := by rw [← e1, ← e2]; simp
  obtain ⟨W2, e3⟩ : ∃ W2, W1.alloc (.cells #[.int .u64 0, .int .u64 0] 27) = W2 := ⟨_, rfl⟩
  obtain ⟨rx, e4⟩ : ∃ rx, cb + 1 = rx := ⟨_, rfl⟩
  have h2 := PairAt.new W1 27 (.int .u64 0) (.int .u64 0)
  rw [hz, e3, e4] at h2
  have hSa : Same W1 W2 := by rw [← e3]; exact (Same.refl W1).alloc _
  have hS2 := hS1.trans hSa
  replace h1 := h1.same hSa
  have E1 := Lib.hid e1
  have E2 := Lib.hid e2
  have E3 := Lib.hid e3
  have E4 := Lib.hid e4
  have HG := Lib.hid (show w.heap.size ≤ rx by omega)
  have HP := Lib.hid (h2.put (.int .u64 cx) (.int .u64 cv))
  clear e1 e2 e3 e4 hz hS1 hSa
  go_enter Try.func29, Try.ntmps29
  go_upto_region 1 with fail
  rw [E1.out, E2.out, E3.out, E4.out]
  obtain ⟨c0, c1, c2, c3, c4, c5⟩ := h1
  obtain ⟨d0, d1, d2, d3⟩ := h2
  go_wp2_with fail
  obtain ⟨q0, q1, q2, q3⟩ := HP.out
  refine bodyPost_ret (by simp [results, Try.results29, go_sem, q0, q1]; try rfl) rfl ?_
  exact ⟨rfl, Below.setCell (Below.setCell hS2 (p := ⟨rx, 0, none⟩) HG.out _) (p := ⟨rx, 1, none⟩) HG.out _⟩
end Go.Proofs.Ytfoncfojljmimaa
