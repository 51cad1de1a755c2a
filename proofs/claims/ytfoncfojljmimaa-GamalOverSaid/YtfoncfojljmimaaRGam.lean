/- The document's layer 5. -/
import Derived.Test.YtfoncfojljmimaaGCross
import Derived.Test.YtfoncfojljmimaaW4
set_option linter.unusedVariables false
set_option linter.unusedSimpArgs false
namespace Go.Proofs.Ytfoncfojljmimaa
open Go.RowKit NT
theorem rkey_any (P Q G H : Int) (ra : Option Addr) (rn rc : Nat) (x : Int) (P0 : 0 ≤ P) (Q0 : 0 ≤ Q) (Q1 : Q < 18446744073709551616) (G0 : 0 ≤ G) (x0 : 0 ≤ x) (x1 : x < 18446744073709551616) (w : World) :
    Calls Try.prog 17 #[.agg #[.int .u64 P, .int .u64 Q, .int .u64 G, .int .u64 H, .slice ra rn rc], .int .u64 x] w fun z w' => z = .returned (.int .u64 (expI Q P G x)) ∧ Same w w' := by
  obtain ⟨W, bx, eW, eb, hS, c0, c1, c2, c3, c4⟩ := par_box w P Q G H (.slice ra rn rc)
  have EW := Lib.hid eW
  have EB := Lib.hid eb
  clear eW eb
  go_enter Try.func17, Try.ntmps17
  go_upto_region 1 with fail
  rw [EW.out, EB.out]
  go_wp2_with fail
  refine (rexp_any P Q G H ra rn rc G x P0 Q0 Q1 G0 x0 x1 _).mono ?_
  rintro e1 w1 ⟨rfl, hS1⟩
  go_wp2_with fail
  go_ret
  exact ⟨rfl, hS.trans hS1⟩
theorem rjoin_any (P Q G H : Int) (ra : Option Addr) (rn rc : Nat) (a : Option Addr) (n cap : Nat) (xs : List Int) (P0 : 0 ≤ P) (w : World) (h : IntsAt w a n xs) :
    Calls Try.prog 30 #[.agg #[.int .u64 P, .int .u64 Q, .int .u64 G, .int .u64 H, .slice ra rn rc], .slice a n cap] w fun z w' => z = .returned (.int .u64 (prodI P xs)) ∧ Same w w' := by
  obtain ⟨W, bx, eW, eb, hS, c0, c1, c2, c3, c4⟩ := par_box w P Q G H (.slice ra rn rc)
  have EW := Lib.hid eW
  have EB := Lib.hid eb
  clear eW eb
  go_enter Try.func30, Try.ntmps30
  go_upto_region 1 with fail
  rw [EW.out, EB.out]
  go_wp2_with fail
  refine (rprod_any P Q G H ra rn rc a n cap xs P0 _ (h.same hS)).mono ?_
  rintro e1 w1 ⟨rfl, hS1⟩
  go_wp2_with fail
  go_ret
  exact ⟨rfl, hS.trans hS1⟩
theorem rshare_any (P Q G H : Int) (ra : Option Addr) (rn rc : Nat) (x cu cv : Int) (P0 : 0 ≤ P) (Q0 : 0 ≤ Q) (Q1 : Q < 18446744073709551616) (u0 : 0 ≤ cu) (x0 : 0 ≤ x) (x1 : x < 18446744073709551616) (w : World) :
    Calls Try.prog 22 #[.agg #[.int .u64 P, .int .u64 Q, .int .u64 G, .int .u64 H, .slice ra rn rc], .int .u64 x, .agg #[.int .u64 cu, .int .u64 cv]] w fun z w' => z = .returned (.int .u64 (expI Q P cu x)) ∧ Same w w' := by
  obtain ⟨W, bx, cx, eW, eb, ec, hB, hc⟩ := par_gc w P Q G H ra rn rc cu cv
  have EW := Lib.hid eW
  have EB := Lib.hid eb
  have EC := Lib.hid ec
  clear eW eb ec
  go_enter Try.func22, Try.ntmps22
  go_upto_region 1 with fail
  rw [EW.out, EB.out, EC.out]
  obtain ⟨b0, b1, b2, b3, b4, hS⟩ := hB
  obtain ⟨p0, p1, p2, p3⟩ := hc
  go_wp2_with fail
  refine (rexp_any P Q G H ra rn rc cu x P0 Q0 Q1 u0 x0 x1 _).mono ?_
  rintro e1 w1 ⟨rfl, hS1⟩
  go_wp2_with fail
  go_ret
  exact ⟨rfl, hS.trans hS1⟩
theorem ropen_any (P Q G H : Int) (ra : Option Addr) (rn rc : Nat) (cu cv : Int) (a : Option Addr) (n cap : Nat) (xs : List Int) (P0 : 0 ≤ P) (v0 : 0 ≤ cv) (w : World) (h : IntsAt w a n xs) :
    Calls Try.prog 25 #[.agg #[.int .u64 P, .int .u64 Q, .int .u64 G, .int .u64 H, .slice ra rn rc], .agg #[.int .u64 cu, .int .u64 cv], .slice a n cap] w fun z w' => z = .returned (.int .u64 (overI P cv (prodI P xs))) ∧ Same w w' := by
  obtain ⟨W, bx, cx, eW, eb, ec, hB, hc⟩ := par_gc w P Q G H ra rn rc cu cv
  have EW := Lib.hid eW
  have EB := Lib.hid eb
  have EC := Lib.hid ec
  have H1 := Lib.hid (h.same (hB.base.trans (drew_same W)))
  have hB0 : BoxC w bx cx P Q G H ra rn rc cu cv W := ⟨hc.u, hc.v, hB⟩
  have HB0 := Lib.hid (hB0.same (drew_same W))
  clear eW eb ec hB hc hB0 h
  obtain ⟨y, hy⟩ : ∃ y, prodI P xs = y := ⟨_, rfl⟩
  have hy0 := (prodI_u P xs).1
  rw [hy] at hy0 ⊢
  have HY := Lib.hid hy
  clear hy
  go_enter Try.func25, Try.ntmps25
  go_upto_region 1 with fail
  rw [EW.out, EB.out, EC.out]
  go_region_held3 (fun w' => BoxC w bx cx P Q G H ra rn rc cu cv w')
    (first
      | exact HB0.out
      | (with_reducible refine BoxC.same (by assumption) ?_; with_reducible assumption)
      | assumption
      | go_keep)
    (first
      | (go_at_call 38; refine (rprod_any P Q G H ra rn rc a n cap xs P0 _ H1.out).mono ?_; rintro e1 w3 ⟨rfl, hT3⟩; rw [HY.out])
      | (go_at_call 39; refine (rover_any P Q G H ra rn rc cv y P0 v0 hy0 _).mono ?_; rintro e1 w4 ⟨rfl, hT4⟩))
  go_wp2_with fail
  go_ret
  rename_i hHeld
  exact ⟨rfl, hHeld.2.2.base⟩

abbrev AgainS (W0 : World) (bx cx rx : Nat) (P Q G H : Int) (ra : Option Addr) (rn rc : Nat) (cu cv : Int) (w : World) : Prop :=
  w.cell? ⟨cx, 0, none⟩ = some (.int .u64 cu) ∧ w.cell? ⟨cx, 1, none⟩ = some (.int .u64 cv) ∧ PairAt w rx (.int .u64 0) (.int .u64 0) ∧ BoxS W0 bx P Q G H ra rn rc w
theorem AgainS.same {W0 w w' : World} {bx cx rx : Nat} {P Q G H : Int} {ra : Option Addr} {rn rc : Nat} {cu cv : Int} (h : AgainS W0 bx cx rx P Q G H ra rn rc cu cv w) (hs : Same w w') : AgainS W0 bx cx rx P Q G H ra rn rc cu cv w' :=
  ⟨same_cell hs h.1, same_cell hs h.2.1, h.2.2.1.same hs, h.2.2.2.same hs⟩
set_option maxHeartbeats 3200000 in
theorem ragain_any (P Q G H : Int) (ra : Option Addr) (rn rc : Nat) (y cu cv r : Int) (P0 : 0 ≤ P) (Q0 : 0 ≤ Q) (Q1 : Q < 18446744073709551616) (G0 : 0 ≤ G) (y0 : 0 ≤ y) (hu : U64 cu) (hv : U64 cv) (r0 : 0 ≤ r) (r1 : r < 18446744073709551616) (w : World) :
    Calls Try.prog 21 #[.agg #[.int .u64 P, .int .u64 Q, .int .u64 G, .int .u64 H, .slice ra rn rc], .int .u64 y, .agg #[.int .u64 cu, .int .u64 cv], .int .u64 r] w fun z w' => z = .returned (.agg #[.int .u64 (prodI P [cu, expI Q P G r]), .int .u64 (prodI P [cv, expI Q P y r])]) ∧ Same w w' := by
  obtain ⟨W, bx, cx, rx, eW, eb, ec, er, hB, hc, hr⟩ := par_pair2 w P Q G H ra rn rc cu cv
  have EW := Lib.hid eW
  have EB := Lib.hid eb
  have EC := Lib.hid ec
  have ER := Lib.hid er
  have hHeld0 : AgainS w bx cx rx P Q G H ra rn rc cu cv W := ⟨hc.u, hc.v, hr, hB⟩
  have HG := Lib.hid (show w.heap.size ≤ rx by omega)
  clear eW eb ec er hB hc hr
  go_enter Try.func21, Try.ntmps21
  go_upto_region 1 with fail
  rw [EW.out, EB.out, EC.out, ER.out]
  go_region_held3 (fun w' => AgainS w bx cx rx P Q G H ra rn rc cu cv w')
    (first
      | (with_reducible refine AgainS.same (by assumption) (drew_same _))
      | (with_reducible refine AgainS.same (by assumption) ?_; with_reducible assumption)
      | (with_reducible exact AgainS.same (by assumption) ((Same.refl _).alloc _))
      | assumption
      | go_keep)
    (first
      | (go_at_call 37; refine (rexp_any P Q G H ra rn rc G r P0 Q0 Q1 G0 r0 r1 _).mono ?_; rintro e1 w3 ⟨rfl, hT3⟩)
      | (go_at_call 38; refine (rprod_any P Q G H ra rn rc _ 2 2 [cu, expI Q P G r] P0 _ (ints_pair _ _ _ _ hu (expI_u _ _ _ _))).mono ?_; rintro e1 w3 ⟨rfl, hT3⟩))
  clear hHeld0
  go_upto_region 2 with fail
  go_region_held3 (fun w' => AgainS w bx cx rx P Q G H ra rn rc cu cv w')
    (first
      | (with_reducible refine AgainS.same (by assumption) (drew_same _))
      | (with_reducible refine AgainS.same (by assumption) ?_; with_reducible assumption)
      | (with_reducible exact AgainS.same (by assumption) ((Same.refl _).alloc _))
      | assumption
      | go_keep)
    (first
      | (go_at_call 37; refine (rexp_any P Q G H ra rn rc y r P0 Q0 Q1 y0 r0 r1 _).mono ?_; rintro e1 w3 ⟨rfl, hT3⟩)
      | (go_at_call 38; refine (rprod_any P Q G H ra rn rc _ 2 2 [cv, expI Q P y r] P0 _ (ints_pair _ _ _ _ hv (expI_u _ _ _ _))).mono ?_; rintro e1 w3 ⟨rfl, hT3⟩))
  rename_i hHeld
  obtain ⟨_, _, ⟨q0, q1, q2, q3⟩, _, _, _, _, _, hSS⟩ := hHeld
  have HQ := Lib.hid ((PairAt.mk q0 q1 q2 q3).put (.int .u64 (prodI P [cu, expI Q P G r])) (.int .u64 (prodI P [cv, expI Q P y r])))
  have hS7 := Below.setCell (Below.setCell hSS (p := ⟨rx, 0, none⟩) HG.out (.int .u64 (prodI P [cu, expI Q P G r]))) (p := ⟨rx, 1, none⟩) HG.out (.int .u64 (prodI P [cv, expI Q P y r]))
  go_wp2_with fail
  obtain ⟨q0, q1, q2, q3⟩ := HQ.out
  refine bodyPost_ret (by simp [results, Try.results21, go_sem, q0, q1]; try rfl) rfl ?_
  exact ⟨rfl, hS7⟩
theorem rseal_any (P Q G H : Int) (ra : Option Addr) (rn rc : Nat) (y m r : Int) (P0 : 0 ≤ P) (Q0 : 0 ≤ Q) (Q1 : Q < 18446744073709551616) (G0 : 0 ≤ G) (y0 : 0 ≤ y) (hm : U64 m) (r0 : 0 ≤ r) (r1 : r < 18446744073709551616) (w : World) :
    Calls Try.prog 19 #[.agg #[.int .u64 P, .int .u64 Q, .int .u64 G, .int .u64 H, .slice ra rn rc], .int .u64 y, .int .u64 m, .int .u64 r] w fun z w' => z = .returned (.agg #[.int .u64 (prodI P [1, expI Q P G r]), .int .u64 (prodI P [m, expI Q P y r])]) ∧ Same w w' := by
  obtain ⟨W, bx, rx, eW, eb, er, hB, hr⟩ := par_pair w P Q G H ra rn rc
  have EW := Lib.hid eW
  have EB := Lib.hid eb
  have ER := Lib.hid er
  have HG := Lib.hid (show w.heap.size ≤ rx by omega)
  clear eW eb er
  obtain ⟨u, hu⟩ : ∃ u, prodI P [1, expI Q P G r] = u := ⟨_, rfl⟩
  obtain ⟨v, hv⟩ : ∃ v, prodI P [m, expI Q P y r] = v := ⟨_, rfl⟩
  have HU := Lib.hid hu
  have HV := Lib.hid hv
  clear hu hv
  go_enter Try.func19, Try.ntmps19
  go_upto_region 1 with fail
  rw [EW.out, EB.out, ER.out]
  obtain ⟨b0, b1, b2, b3, b4, hS0⟩ := hB
  go_wp2_with fail
  refine (ragain_any P Q G H ra rn rc y 1 m r P0 Q0 Q1 G0 y0 ⟨by decide, by decide⟩ hm r0 r1 _).mono ?_
  rintro e1 w1 ⟨rfl, hS1⟩
  rw [HU.out, HV.out]
  obtain ⟨q0, q1, q2, q3⟩ := hr.same hS1
  have hSS := hS0.trans hS1
  have HQ := Lib.hid ((PairAt.mk q0 q1 q2 q3).put (.int .u64 u) (.int .u64 v))
  have hS7 := Below.setCell (Below.setCell hSS (p := ⟨rx, 0, none⟩) HG.out (.int .u64 u)) (p := ⟨rx, 1, none⟩) HG.out (.int .u64 v)
  clear b0 b1 b2 b3 b4 hr
  go_wp2_with fail
  obtain ⟨q0, q1, q2, q3⟩ := HQ.out
  refine bodyPost_ret (by simp [results, Try.results19, go_sem, q0, q1]; try rfl) rfl ?_
  exact ⟨by rw [HU.out, HV.out], hS7⟩
set_option maxHeartbeats 3200000 in
theorem rcross_any (P Q G H : Int) (ra : Option Addr) (rn rc : Nat) (x y tu tw tv r : Int) (P0 : 0 ≤ P) (Q0 : 0 ≤ Q) (Q1 : Q < 18446744073709551616) (G0 : 0 ≤ G) (x0 : 0 ≤ x) (x1 : x < 18446744073709551616) (y0 : 0 ≤ y) (u0 : 0 ≤ tu) (hw : U64 tw) (hv : U64 tv) (r0 : 0 ≤ r) (r1 : r < 18446744073709551616) (w : World) :
    Calls Try.prog 24 #[.agg #[.int .u64 P, .int .u64 Q, .int .u64 G, .int .u64 H, .slice ra rn rc], .int .u64 x, .int .u64 y, .agg #[.int .u64 tu, .int .u64 tw, .int .u64 tv], .int .u64 r] w fun z w' => z = .returned (.agg #[.int .u64 tu, .int .u64 (prodI P [tw, expI Q P G r]), .int .u64 (prodI P [overI P tv (expI Q P tu x), expI Q P y r])]) ∧ Same w w' := by
  obtain ⟨W, bx, tx, rx, eW, eb, et, er, es, hB⟩ := par_cross w P Q G H ra rn rc tu tw tv
  have EW := Lib.hid eW
  have EB := Lib.hid eb
  have ET := Lib.hid et
  have ER := Lib.hid er
  have HG := Lib.hid (show w.heap.size ≤ rx by omega)
  clear eW eb et er es
  go_enter Try.func24, Try.ntmps24
  go_upto_region 1 with fail
  rw [EW.out, EB.out, ET.out, ER.out]
  go_region_held3 (fun w' => CrossS w bx tx rx P Q G H ra rn rc tu tw tv w')
    (first
      | (with_reducible refine CrossS.same (by assumption) (drew_same _))
      | (with_reducible refine CrossS.same (by assumption) ?_; with_reducible assumption)
      | (with_reducible exact CrossS.same (by assumption) ((Same.refl _).alloc _))
      | assumption
      | go_keep)
    (first
      | (go_at_call 37; refine (rexp_any P Q G H ra rn rc G r P0 Q0 Q1 G0 r0 r1 _).mono ?_; rintro e1 w3 ⟨rfl, hT3⟩)
      | (go_at_call 38; refine (rprod_any P Q G H ra rn rc _ 2 2 [tw, expI Q P G r] P0 _ (ints_pair _ _ _ _ hw (expI_u _ _ _ _))).mono ?_; rintro e1 w3 ⟨rfl, hT3⟩))
  clear hB
  go_upto_region 2 with fail
  go_region_held3 (fun w' => CrossS w bx tx rx P Q G H ra rn rc tu tw tv w')
    (first
      | (with_reducible refine CrossS.same (by assumption) (drew_same _))
      | (with_reducible refine CrossS.same (by assumption) ?_; with_reducible assumption)
      | (with_reducible exact CrossS.same (by assumption) ((Same.refl _).alloc _))
      | assumption
      | go_keep)
    (first
      | (go_at_call 37; refine (rexp_any P Q G H ra rn rc tu x P0 Q0 Q1 u0 x0 x1 _).mono ?_; rintro e1 w3 ⟨rfl, hT3⟩)
      | (go_at_call 39; refine (rover_any P Q G H ra rn rc tv (expI Q P tu x) P0 hv.1 (expI_u _ _ _ _).1 _).mono ?_; rintro e1 w3 ⟨rfl, hT3⟩))
  go_upto_region 3 with fail
  go_region_held3 (fun w' => CrossS w bx tx rx P Q G H ra rn rc tu tw tv w')
    (first
      | (with_reducible refine CrossS.same (by assumption) (drew_same _))
      | (with_reducible refine CrossS.same (by assumption) ?_; with_reducible assumption)
      | (with_reducible exact CrossS.same (by assumption) ((Same.refl _).alloc _))
      | assumption
      | go_keep)
    (first
      | (go_at_call 37; refine (rexp_any P Q G H ra rn rc y r P0 Q0 Q1 y0 r0 r1 _).mono ?_; rintro e1 w3 ⟨rfl, hT3⟩)
      | (go_at_call 38; refine (rprod_any P Q G H ra rn rc _ 2 2 [overI P tv (expI Q P tu x), expI Q P y r] P0 _ (ints_pair _ _ _ _ (overI_u _ _ _) (expI_u _ _ _ _))).mono ?_; rintro e1 w3 ⟨rfl, hT3⟩))
  rename_i hHeld
  obtain ⟨t0, t1, t2, ⟨_, _, _, q0, q1, q2, q3, q4, q5⟩, _, _, _, _, _, hSS⟩ := hHeld
  have HQ := Lib.hid ((ThreeAt.mk q0 q1 q2 q3 q4 q5).put (.int .u64 tu) (.int .u64 (prodI P [tw, expI Q P G r])) (.int .u64 (prodI P [overI P tv (expI Q P tu x), expI Q P y r])))
  have hS7 := Below.setCell (Below.setCell (Below.setCell hSS (p := ⟨rx, 0, none⟩) HG.out (.int .u64 tu)) (p := ⟨rx, 1, none⟩) HG.out (.int .u64 (prodI P [tw, expI Q P G r]))) (p := ⟨rx, 2, none⟩) HG.out (.int .u64 (prodI P [overI P tv (expI Q P tu x), expI Q P y r]))
  go_wp2_with fail
  obtain ⟨q0, q1, q2, q3, q4, q5⟩ := HQ.out
  refine bodyPost_ret (by simp [results, Try.results24, go_sem, q0, q1, q2]; try rfl) rfl ?_
  exact ⟨rfl, hS7⟩
end Go.Proofs.Ytfoncfojljmimaa
