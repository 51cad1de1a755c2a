/- The law's claim: one whose targets are the image. -/
import Derived.Test.YtlnkpbaibnfhhaaLinRImg
import Derived.Test.YtlnkpbaibnfhhaaFew6
import Derived.Test.YtlnkpbaibnfhhaaLaw6B
import Derived.Handy
set_option linter.unusedVariables false
set_option linter.unusedSimpArgs false
set_option pp.deepTerms true
set_option pp.maxSteps 1000000
namespace Go.Proofs.Ytlnkpbaibnfhhaa
open Go.RowKit NT
/-- two cells in a block, not frozen -/
structure Pr2 (w : World) (b : Nat) (u v : Value) : Prop where
  u : w.cell? ⟨b, 0, none⟩ = some u
  v : w.cell? ⟨b, 1, none⟩ = some v
  fu : w.frozen? ⟨b, 0, none⟩ = false
  fv : w.frozen? ⟨b, 1, none⟩ = false
theorem Pr2.below {w w' : World} {B b : Nat} {u v : Value} (h : Pr2 w b u v) (hs : Below B w w') (hb : b < B) : Pr2 w' b u v :=
  ⟨(hs.cell hb).trans h.u, (hs.cell hb).trans h.v, (hs.frozen hb).trans h.fu, (hs.frozen hb).trans h.fv⟩
theorem Pr2.same {w w' : World} {b : Nat} {u v : Value} (h : Pr2 w b u v) (hs : Same w w') : Pr2 w' b u v := h.below hs (World.block_lt_of_cell? w _ h.u)
theorem Pr2.new (w : World) (t : TypeId) (u v : Value) : Pr2 (w.alloc (.cells #[u, v] t)) w.heap.size u v :=
  ⟨by simp [World.cell?_alloc_new], by simp [World.cell?_alloc_new], by simp [World.frozen?_alloc_new], by simp [World.frozen?_alloc_new]⟩
theorem Pr2.set0 {w : World} {b : Nat} {u v : Value} (h : Pr2 w b u v) (x : Value) : Pr2 (w.setCell ⟨b, 0, none⟩ x) b x v :=
  ⟨World.cell?_setCell_same _ _ _ h.u, (World.cell?_setCell_other _ _ _ _ (by simp)).trans h.v, by simp [h.fu], by simp [h.fv]⟩
theorem Pr2.set1 {w : World} {b : Nat} {u v : Value} (h : Pr2 w b u v) (x : Value) : Pr2 (w.setCell ⟨b, 1, none⟩ x) b u x :=
  ⟨(World.cell?_setCell_other _ _ _ _ (by simp)).trans h.u, World.cell?_setCell_same _ _ _ h.v, by simp [h.fu], by simp [h.fv]⟩
theorem Pr2.far {w : World} {b : Nat} {u v : Value} (h : Pr2 w b u v) {b' o : Nat} (hb : b' ≠ b) (x : Value) : Pr2 (w.setCell ⟨b', o, none⟩ x) b u v :=
  ⟨(World.cell?_setCell_far _ _ _ _ hb).trans h.u, (World.cell?_setCell_far _ _ _ _ hb).trans h.v, by simp [h.fu], by simp [h.fv]⟩
theorem BoxS.belowB {W0 w w' : World} {B gx : Nat} {P Q G H : Int} {ra : Option Addr} {rn rc : Nat} (h : BoxS W0 gx P Q G H ra rn rc w) (hs : Below B w w') (hg : gx < B) (h0 : W0.heap.size ≤ B) : BoxS W0 gx P Q G H ra rn rc w' := by
  obtain ⟨c0, c1, c2, c3, c4, h5⟩ := h
  exact ⟨(hs.cell hg).trans c0, (hs.cell hg).trans c1, (hs.cell hg).trans c2, (hs.cell hg).trans c3, (hs.cell hg).trans c4, Below.trans h5 (hs.mono h0)⟩
theorem below_grown {base : Nat} {wr w1 : World} {v : Value} {xs : List Int} {o : Obj} (hb : base ≤ wr.heap.size) (hown : OwnI wr base v xs) (hg : (wr.alloc o).grownBy w1 v.ownBlock) : Below base wr w1 := by
  have h1 : Below base wr (wr.alloc o) := Below.alloc (Below.refl _ _) hb o
  refine Below.grown h1 hg (by simp; omega) (fun k hk => ?_)
  exact (hown.own.lt k hk).1
theorem OwnI.far {w : World} {base : Nat} {v : Value} {xs : List Int} (h : OwnI w base v xs) {a : Addr} (ha : a.block < base) (x : Value) : OwnI (w.setCell a x) base v xs := ⟨ownsRow_setCell_below h.own ha x, h.u, h.small⟩
/-- a store into a cell that holds a slice leaves numbers as they are -/
theorem IntsAt.store {w : World} {a : Option Addr} {n : Nat} {xs : List Int} (h : IntsAt w a n xs) {p : Addr} {sa : Option Addr} {sn sc : Nat} (hp : w.cell? p = some (.slice sa sn sc)) (x : Value) : IntsAt (w.setCell p x) a n xs :=
  ⟨h.len, h.small, fun h0 => by
    obtain ⟨b, off, e, hc⟩ := h.cells h0
    refine ⟨b, off, e, fun j hj => ?_⟩
    rw [World.cell?_setCell_other _ _ _ _ (fun k => by have := hc j hj; rw [← k, hp] at this; cases this)]
    exact hc j hj, h.bd⟩
def ones (n : Nat) : List Int := List.replicate n 1
theorem ones_snoc (n : Nat) : ones (n + 1) = ones n ++ [1] := by unfold ones; rw [List.replicate_succ']
noncomputable def claimB (P Q : Int) (bs : List (List Int)) (ws : List Int) : Bool := fewB (ones bs.length) bs [ws] && imgB P Q (ones bs.length) bs ws
def ClRet (P Q : Int) (bs : List (List Int)) (ws : List Int) (ba : Option Addr) (bn bc : Nat) (w : World) (z : Ending) (w' : World) : Prop :=
  ∃ ta tn tc, z = .returned (.tuple #[.agg #[.slice ta tn tc, .slice ba bn bc], .bool (claimB P Q bs ws)]) ∧ (claimB P Q bs ws = true → IntsAt w' ta tn (imageS P Q bs ws)) ∧ Same w w'
set_option maxRecDepth 100000 in
set_option maxHeartbeats 3200000 in
theorem claim_any (P Q G H : Int) (ra : Option Addr) (rn rc : Nat) (ba wa : Option Addr) (bn bc wn wc : Nat) (bs : List (List Int)) (ws : List Int) (hP : U64 P) (hQ : U64 Q) (hbn : bn * 24 ≤ 140737488355328) (w : World) (hb : MatAt w ba bn bs) (hw : IntsAt w wa wn ws) :
    Calls Try.prog 20 #[.agg #[.int .u64 P, .int .u64 Q, .int .u64 G, .int .u64 H, .slice ra rn rc], .slice ba bn bc, .slice wa wn wc] w fun z w' => ClRet P Q bs ws ba bn bc w z w' := by
  obtain ⟨W1, gx, e1, e2, hS0, c0, c1, c2, c3, c4⟩ := par_box w P Q G H (.slice ra rn rc)
  have z1 : W1.heap.size = gx + 1 := by rw [← e1, ← e2]; simp
  obtain ⟨W2, f2⟩ : ∃ W2, W1.alloc (.cells #[.slice none 0 0, .slice none 0 0] 29) = W2 := ⟨_, rfl⟩
  have hr := Pr2.new W1 29 (.slice none 0 0) (.slice none 0 0)
  have s2 : Same W1 W2 := by rw [← f2]; exact (Same.refl W1).alloc _
  have z2 : W2.heap.size = gx + 1 + 1 := by rw [← f2, ← z1]; simp
  obtain ⟨rx, erx⟩ : ∃ rx, gx + 1 = rx := ⟨_, rfl⟩
  rw [f2, z1, erx] at hr
  rw [erx] at z2
  have HB := Lib.hid (BoxS.same (W0 := w) (bx := gx) (P := P) (Q := Q) (G := G) (H := H) (ra := ra) (rn := rn) (rc := rc) ⟨c0, c1, c2, c3, c4, hS0⟩ s2)
  have E1 := Lib.hid e1
  have E2 := Lib.hid e2
  have F2 := Lib.hid f2
  have ER := Lib.hid erx
  have HM := Lib.hid hb
  have HW := Lib.hid hw
  have HLB := Lib.hid hb.len
  have HU := Lib.hid (And.intro hP hQ)
  have HR := Lib.hid hr
  have HZ2 := Lib.hid z2
  clear e1 e2 f2 erx hb hw hP hQ hS0 c0 c1 c2 c3 c4 s2 z1 z2 hr
  obtain ⟨i0, hi, hz0, hz1, hz2⟩ := info_parts info_u64
  go_enter Try.func20, Try.ntmps20
  go_upto_region 1 with fail
  rw [E1.out, E2.out, ER.out, F2.out]
  go_upto_region 2 with fail
  obtain ⟨W3, eW3⟩ : ∃ W3, W2.alloc (.cells #[.slice none 0 0, .slice ba bn bc] 29) = W3 := ⟨_, rfl⟩
  obtain ⟨cx, ecx⟩ : ∃ cx, W2.heap.size = cx := ⟨_, rfl⟩
  have hS3 : Same W2 W3 := by rw [← eW3]; exact (Same.refl W2).alloc _
  have hc := Pr2.new W2 29 (.slice none 0 0) (.slice ba bn bc)
  have hz3 : W3.heap.size = cx + 1 := by rw [← eW3, ← ecx]; simp
  rw [eW3, ecx] at hc
  rw [eW3, ecx]
  obtain ⟨B, eB⟩ : ∃ B, cx + 1 = B := ⟨_, rfl⟩
  rw [eB] at hz3
  have HBD := Lib.hid (show gx < B ∧ rx < B ∧ cx < B ∧ rx ≠ cx ∧ cx ≠ gx ∧ rx ≠ gx ∧ w.heap.size ≤ cx ∧ w.heap.size ≤ rx ∧ w.heap.size ≤ B by have := E2.out; have := ER.out; have := HZ2.out; omega)
  have HB3 := Lib.hid (BoxS.same HB.out hS3)
  have HR3 := Lib.hid (HR.out.same hS3)
  have HC3 := Lib.hid hc
  have HZ3 := Lib.hid hz3
  clear eW3 ecx hS3 hc eB hz3 HB HR
  have hsb : bn ≤ 5864062014805 := by omega
  go_wp2_with fail
  go_loopw [15] (fun s15 wr => ∃ (j : Nat) (ta : Option Addr) (tn tc : Nat), s15 = .int .i64 j ∧ j ≤ bn ∧ Pr2 wr cx (.slice ta tn tc) (.slice ba bn bc) ∧ OwnI wr B (.slice ta tn tc) (ones j) ∧ Pr2 wr rx (.slice none 0 0) (.slice none 0 0) ∧ Hid (BoxS w gx P Q G H ra rn rc wr) ∧ B ≤ wr.heap.size) (fun s15 _ => bn - (intOf s15).toNat)
  case atStart => exact ⟨0, none, 0, 0, rfl, by omega, HC3.out, OwnI.nil _ _, HR3.out, HB3, by rw [HZ3.out]; exact Nat.le_refl _⟩
  case round =>
    obtain ⟨j, ta, tn, tc, rfl, hj, hc, hown, hr, hbx, hsz⟩ := hrel
    by_cases hlt : j < bn
    · have hol : (ones j).length = j := by unfold ones; simp
      have HC := Lib.hid hc
      have HRr := Lib.hid hr
      obtain ⟨k0, k1, k2, k3⟩ := hc
      clear hr
      go_wp2_with (first
        | (at_builtin; refine wpList_append_own _ rfl _ _ 26 rfl B 22 i0 (.int .u64 0) 1 8 Try.underlying26 hi hz0 hz1 hz2 rfl (by decide) _ _ _ rfl (hown.own.alloc _) ⟨wr.heap.size, 0, none⟩ 1 1 [.int .u64 1] rfl rfl (one_new _ _ _) (one_cell _) (by rw [hol]; unfold maxLen; omega) (by rw [hol]; omega) (by simp; omega) ?_; intro v' w7 hown' hgrow _; have hbel := Lib.hid (below_grown hsz hown hgrow); have HC7 := Lib.hid (HC.out.below hbel.out HBD.out.2.2.1); have HO7 := Lib.hid (OwnI.push hown.u (show U64 1 from ⟨by decide, by decide⟩) (by rw [hol]; omega) hown'); clear hown' hgrow k0 k1 k2 k3; obtain ⟨pa, pn, pc, rfl, _⟩ := HO7.out.ints; obtain ⟨k0, k1, k2, k3⟩ := HC7.out))
      go_roundw
      case rel => exact ⟨j + 1, pa, pn, pc, by go_num, by omega, HC7.out.set0 _, by rw [ones_snoc]; exact HO7.out.far HBD.out.2.2.1 _, (HRr.out.below hbel.out HBD.out.2.1).far HBD.out.2.2.2.1.symm _, Lib.hid (BoxS.set6 (BoxS.belowB hbx.out hbel.out HBD.out.1 HBD.out.2.2.2.2.2.2.2.2) HBD.out.2.2.2.2.1 HBD.out.2.2.2.2.2.2.1 _), by have := hbel.out.size; simp [World.setCell]; omega⟩
      case measure => simp [intOf]; omega
    · obtain rfl : j = bn := by omega
      have HO := Lib.hid hown
      obtain ⟨ta2, tn2, tc2, e1, hti⟩ := hown.ints
      injection e1 with e1 e2 e3
      subst e1 e2 e3
      have HTI := Lib.hid hti
      have HC := Lib.hid hc
      have HRr := Lib.hid hr
      have hS := hbx.out.base
      have HSS := Lib.hid hS
      clear hown hti
      obtain ⟨k0, k1, k2, k3⟩ := hc
      obtain ⟨r0, r1, r2, r3⟩ := hr
      obtain ⟨b0, b1, b2, b3, b4, _⟩ := hbx.out
      have HLO := Lib.hid (show j = bs.length from HLB.out.symm)
      go_wp2_with fail
      refine (few6_any ta ba _ tn tc j bc 1 1 (ones j) bs [ws] _ (HTI.out.same ((Same.refl _).alloc _)) (HM.out.same (hS.alloc _)) (mat_one _ _ _ _ _ _ (HW.out.same hS))).mono ?_
      rintro e1 w5 ⟨rfl, hT⟩
      have hT5 := ((Same.refl wr).alloc (.cells #[.slice wa wn wc] 26)).trans hT
      have HC5 := Lib.hid (HC.out.same hT5)
      have HR5 := Lib.hid (HRr.out.same hT5)
      have HB5 := Lib.hid (BoxS.same hbx.out hT5)
      have HT5 := Lib.hid (HTI.out.same hT5)
      clear k0 k1 k2 k3 r0 r1 r2 r3 b0 b1 b2 b3 b4 hS hT hT5 hbx
      obtain ⟨k0, k1, k2, k3⟩ := HC5.out
      obtain ⟨r0, r1, r2, r3⟩ := HR5.out
      obtain ⟨b0, b1, b2, b3, b4, hS⟩ := HB5.out
      by_cases hf : FewP (ones j) bs [ws]
      case neg =>
        have HV := Lib.hid (show claimB P Q bs ws = false by unfold claimB; rw [← HLO.out, fewB_no hf]; rfl)
        rw [fewB_no hf]
        clear hf
        have HP := Lib.hid ((HR5.out.set0 (.slice ta tn tc)).set1 (.slice ba j bc))
        have hS7 := Below.setCell (Below.setCell hS (p := ⟨rx, 0, none⟩) HBD.out.2.2.2.2.2.2.2.1 (.slice ta tn tc)) (p := ⟨rx, 1, none⟩) HBD.out.2.2.2.2.2.2.2.1 (.slice ba j bc)
        go_wp2_with fail
        obtain ⟨q0, q1, q2, q3⟩ := HP.out
        refine bodyPost_ret (by simp [results, Try.results20, go_sem, q0, q1]; try rfl) rfl ?_
        exact ⟨ta, tn, tc, by rw [HV.out], (fun h => by rw [HV.out] at h; cases h), hS7⟩
      rw [fewB_yes hf]
      have HF := Lib.hid (show claimB P Q bs ws = imgB P Q (ones j) bs ws by unfold claimB; rw [← HLO.out, fewB_yes hf]; rfl)
      clear hf
      go_wp2_with fail
      refine (rimage_any P Q G H ra rn rc ta ba wa tn tc j bc wn wc (ones j) bs ws HU.out.1 HU.out.2 _ HT5.out (HM.out.same hS) (HW.out.same hS)).mono ?_
      rintro e1 w6 ⟨ia, im, ic, rfl, hi', hT⟩
      rw [← HF.out]
      have HI := Lib.hid hi'
      have HC6 := Lib.hid (HC5.out.same hT)
      have HR6 := Lib.hid (HR5.out.same hT)
      have hS6 := hS.trans hT
      clear k0 k1 k2 k3 r0 r1 r2 r3 b0 b1 b2 b3 b4 hS hT hi'
      obtain ⟨k0, k1, k2, k3⟩ := HC6.out
      have HC7 := Lib.hid (HC6.out.set0 (.slice ia im ic))
      have HR7 := Lib.hid (HR6.out.far (o := 0) HBD.out.2.2.2.1.symm (.slice ia im ic))
      have hS7 := Below.setCell hS6 (p := ⟨cx, 0, none⟩) HBD.out.2.2.2.2.2.2.1 (.slice ia im ic)
      have HS6 := Lib.hid hS6
      go_upto_region 10 with fail
      obtain ⟨w7, ew7⟩ : ∃ w7, w6.setCell ⟨cx, 0, none⟩ (.slice ia im ic) = w7 := ⟨_, rfl⟩
      rw [ew7] at HC7 HR7 hS7 ⊢
      have EW7 := Lib.hid ew7
      clear k0 k1 k2 k3 ew7 hS6
      obtain ⟨k0, k1, k2, k3⟩ := HC7.out
      obtain ⟨r0, r1, r2, r3⟩ := HR7.out
      have HP := Lib.hid ((HR7.out.set0 (.slice ia im ic)).set1 (.slice ba j bc))
      have hS8 := Below.setCell (Below.setCell hS7 (p := ⟨rx, 0, none⟩) HBD.out.2.2.2.2.2.2.2.1 (.slice ia im ic)) (p := ⟨rx, 1, none⟩) HBD.out.2.2.2.2.2.2.2.1 (.slice ba j bc)
      have HII := Lib.hid (show claimB P Q bs ws = true → IntsAt ((w7.setCell ⟨rx, 0, none⟩ (.slice ia im ic)).setCell ⟨rx, 1, none⟩ (.slice ba j bc)) ia im (imageS P Q bs ws) from fun h => by
        rw [HF.out] at h
        have ho : ImgOk P Q (ones j) bs ws := by
          by_cases ho : ImgOk P Q (ones j) bs ws
          · exact ho
          · rw [imgB_no ho] at h; cases h
        have hi := HI.out
        rw [imgL_yes ho] at hi
        have k5 := hi.store HC6.out.u (.slice ia im ic)
        rw [EW7.out] at k5
        exact (k5.store HR7.out.u (.slice ia im ic)).store (HR7.out.set0 (.slice ia im ic)).v (.slice ba j bc))
      go_wp2_with fail
      obtain ⟨q0, q1, q2, q3⟩ := HP.out
      refine bodyPost_ret (by simp [results, Try.results20, go_sem, q0, q1]; try rfl) rfl ?_
      exact ⟨ia, im, ic, rfl, HII.out, hS8⟩
end Go.Proofs.Ytlnkpbaibnfhhaa
