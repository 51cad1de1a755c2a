/- The walk of GamalCrosses. -/
import Derived.Test.YtfoncfojljmimaaAwake5
import Derived.Test.YtfoncfojljmimaaW6
import Derived.Test.YtfoncfojljmimaaGamL
set_option linter.unusedVariables false
set_option linter.unusedSimpArgs false
namespace Go.Proofs.Ytfoncfojljmimaa
open Go.RowKit NT
theorem ints_tri (w : World) (t : TypeId) (a b c : Int) (ha : U64 a) (hb : U64 b) (hc : U64 c) : IntsAt (w.alloc (.cells #[.int .u64 a, .int .u64 b, .int .u64 c] t)) (some ⟨w.heap.size, 0, none⟩) 3 [a, b, c] := by
  refine ⟨rfl, by omega, fun _ => ⟨w.heap.size, 0, rfl, fun j hj => ?_⟩, fun j => ?_⟩
  · match j, hj with
    | 0, _ => simp [World.cell?_alloc_new]
    | 1, _ => simp [World.cell?_alloc_new]
    | 2, _ => simp [World.cell?_alloc_new]
  · match j with
    | 0 => exact ha
    | 1 => exact hb
    | 2 => exact hc
    | _ + 3 => exact ⟨by simp, by simp⟩
abbrev GT (W0 : World) (bx tx : Nat) (P Q G H : Int) (ra : Option Addr) (rn rc : Nat) (tu tw tv : Int) (w : World) : Prop :=
  w.cell? ⟨tx, 0, none⟩ = some (.int .u64 tu) ∧ w.cell? ⟨tx, 1, none⟩ = some (.int .u64 tw) ∧ w.cell? ⟨tx, 2, none⟩ = some (.int .u64 tv) ∧ BoxS W0 bx P Q G H ra rn rc w
theorem GT.same {W0 w w' : World} {bx tx : Nat} {P Q G H : Int} {ra : Option Addr} {rn rc : Nat} {tu tw tv : Int} (h : GT W0 bx tx P Q G H ra rn rc tu tw tv w) (hs : Same w w') : GT W0 bx tx P Q G H ra rn rc tu tw tv w' :=
  ⟨same_cell hs h.1, same_cell hs h.2.1, same_cell hs h.2.2.1, h.2.2.2.same hs⟩
abbrev GTC (W0 : World) (bx tx cx b off : Nat) (P Q G H : Int) (ra : Option Addr) (rn rc : Nat) (tu tw tv y : Int) (w : World) : Prop :=
  w.cell? ⟨b, off, none⟩ = some (.int .u64 y) ∧ w.cell? ⟨cx, 0, none⟩ = some (.int .u64 tu) ∧ w.cell? ⟨cx, 1, none⟩ = some (.int .u64 tv) ∧ GT W0 bx tx P Q G H ra rn rc tu tw tv w
theorem GTC.same {W0 w w' : World} {bx tx cx b off : Nat} {P Q G H : Int} {ra : Option Addr} {rn rc : Nat} {tu tw tv y : Int} (h : GTC W0 bx tx cx b off P Q G H ra rn rc tu tw tv y w) (hs : Same w w') : GTC W0 bx tx cx b off P Q G H ra rn rc tu tw tv y w' :=
  ⟨same_cell hs h.1, same_cell hs h.2.1, same_cell hs h.2.2.1, h.2.2.2.same hs⟩
theorem GTC.base {W0 w : World} {bx tx cx b off : Nat} {P Q G H : Int} {ra : Option Addr} {rn rc : Nat} {tu tw tv y : Int} (h : GTC W0 bx tx cx b off P Q G H ra rn rc tu tw tv y w) : Same W0 w := h.2.2.2.2.2.2.base
theorem par_gt (w : World) (P Q G H : Int) (ra : Option Addr) (rn rc : Nat) (tu tw tv : Int) : ∃ W bx tx, (w.alloc (.cells #[.int .u64 P, .int .u64 Q, .int .u64 G, .int .u64 H, .slice ra rn rc] 25)).alloc (.cells #[.int .u64 tu, .int .u64 tw, .int .u64 tv] 49) = W ∧ w.heap.size = bx ∧ bx + 1 = tx ∧
    GT w bx tx P Q G H ra rn rc tu tw tv W := by
  obtain ⟨W1, bx, e1, e2, hS, c0, c1, c2, c3, c4⟩ := par_box w P Q G H (.slice ra rn rc)
  have hz : W1.heap.size = bx + 1 := by rw [← e1, ← e2]; simp
  have hS1 : Same W1 (W1.alloc (.cells #[.int .u64 tu, .int .u64 tw, .int .u64 tv] 49)) := (Same.refl W1).alloc _
  have hp1 := ThreeAt.new W1 49 (.int .u64 tu) (.int .u64 tw) (.int .u64 tv)
  rw [hz] at hp1
  exact ⟨_, bx, bx + 1, by rw [e1], e2, rfl, hp1.u, hp1.x, hp1.v, same_cell hS1 c0, same_cell hS1 c1, same_cell hS1 c2, same_cell hS1 c3, same_cell hS1 c4, hS.trans hS1⟩
theorem tri_of {P Q a b c : Int} (h : AllE P Q [a, b, c]) : InP P Q a ∧ InP P Q b ∧ InP P Q c := ⟨h a (by simp), h b (by simp), h c (by simp)⟩
set_option maxHeartbeats 3200000 in
theorem lawCrosses (P Q G H : Int) (ra : Option Addr) (rn rc : Nat) (rs : List RowD) (tu tw tv : Int) (a : Option Addr) (n cap : Nat) (xs : List Int) (hP : U64 P) (hQ : U64 Q) (hG : U64 G) (hH : U64 H) (hu : U64 tu) (hw : U64 tw) (hv : U64 tv) (w : World) (h : RowsAt w ra rn rs) (hi : IntsAt w a n xs) :
    Calls Try.prog 7 #[.agg #[.int .u64 P, .int .u64 Q, .int .u64 G, .int .u64 H, .slice ra rn rc], .agg #[.int .u64 tu, .int .u64 tw, .int .u64 tv], .slice a n cap] w fun e w' => e = .returned (.bool true) ∧ Same w w' := by
  obtain ⟨W, bx, tx, eW, eb, et, hB⟩ := par_gt w P Q G H ra rn rc tu tw tv
  have EW := Lib.hid eW
  have EB := Lib.hid eb
  have ET := Lib.hid et
  have H1 := Lib.hid h
  have HI := Lib.hid hi
  have HLen := Lib.hid hi.len
  have hsm := hi.small
  have HU := Lib.hid (And.intro hP (And.intro hQ (And.intro hG hH)))
  have HUt := Lib.hid (And.intro hu (And.intro hw hv))
  clear eW eb et h hi hP hQ hG hH hu hw hv
  go_enter Try.func7, Try.ntmps7
  go_upto_region 1 with fail
  rw [EW.out, EB.out, ET.out]
  go_wp2_with fail
  refine (awake5 _).mono ?_
  rintro e1 w1 ⟨rfl, hT⟩
  replace hB := hB.same hT
  clear hT
  have hB1 := Lib.hid hB
  obtain ⟨t0, t1, t2, b0, b1, b2, b3, b4, hS⟩ := hB
  go_wp2_with fail
  refine (group5_any P Q G H ra rn rc rs HU.out.1 HU.out.2.1 HU.out.2.2.1 HU.out.2.2.2 _ (H1.out.same hS)).mono ?_
  rintro e1 w2 ⟨rfl, hT⟩
  by_cases hg : GoodP P Q G H rs
  case neg =>
    rw [goodB_no hg]
    clear hg
    go_wp2_with fail
    go_ret
    exact ⟨rfl, hS.trans hT⟩
  rw [goodB_yes hg]
  have HR := Lib.hid hg.2
  have hB2 := Lib.hid (hB1.out.same hT)
  clear hg t0 t1 t2 b0 b1 b2 b3 b4 hS hT hB1
  obtain ⟨t0, t1, t2, b0, b1, b2, b3, b4, hS⟩ := hB2.out
  go_wp2_with fail
  refine (all_any P Q G H ra rn rc _ 3 3 [tu, tw, tv] HU.out.1.1 HU.out.2.1.1 HU.out.2.1.2 _ (ints_tri _ _ _ _ _ HUt.out.1 HUt.out.2.1 HUt.out.2.2)).mono ?_
  rintro e1 w3 ⟨rfl, hT⟩
  by_cases ha : AllE P Q [tu, tw, tv]
  case neg =>
    rw [allB_no ha]
    clear ha
    go_wp2_with fail
    go_ret
    exact ⟨rfl, hS.trans (((Same.refl _).alloc _).trans hT)⟩
  rw [allB_yes ha]
  have HE := Lib.hid (tri_of ha)
  have hB3 := Lib.hid (hB2.out.same (((Same.refl _).alloc _).trans hT))
  clear ha t0 t1 t2 b0 b1 b2 b3 b4 hS hT hB2
  obtain ⟨t0, t1, t2, b0, b1, b2, b3, b4, hS⟩ := hB3.out
  go_wp2_with fail
  refine (all_any P Q G H ra rn rc a n cap xs HU.out.1.1 HU.out.2.1.1 HU.out.2.1.2 _ (HI.out.same hS)).mono ?_
  rintro e1 w4 ⟨rfl, hT⟩
  by_cases ha : AllE P Q xs
  case neg =>
    rw [allB_no ha]
    clear ha
    go_wp2_with fail
    go_ret
    exact ⟨rfl, hS.trans hT⟩
  rw [allB_yes ha]
  have HX := Lib.hid ha
  have hB4 := Lib.hid (hB3.out.same hT)
  clear ha t0 t1 t2 b0 b1 b2 b3 b4 hS hT hB3
  obtain ⟨t0, t1, t2, b0, b1, b2, b3, b4, hS⟩ := hB4.out
  by_cases n2 : n < 2
  · have d2 : decide ((n : Int) < 2) = true := decide_eq_true (by omega)
    go_wp2_with fail
    go_ret
    exact ⟨rfl, hS⟩
  have d2 : decide ((n : Int) < 2) = false := decide_eq_false (by omega)
  by_cases n20 : 20 < n
  · have d3 : decide ((20 : Int) < n) = true := decide_eq_true (by omega)
    go_wp2_with fail
    go_ret
    exact ⟨rfl, hS⟩
  have d3 : decide ((20 : Int) < n) = false := decide_eq_false (by omega)
  go_upto_region 6 with fail
  obtain ⟨W5, eW5⟩ : ∃ W5, w4.alloc (.cells #[.int .u64 tu, .int .u64 tv] 27) = W5 := ⟨_, rfl⟩
  obtain ⟨cx, ecx⟩ : ∃ cx, w4.heap.size = cx := ⟨_, rfl⟩
  have hS5 : Same w4 W5 := by rw [← eW5]; exact (Same.refl w4).alloc _
  have hc := PairAt.new w4 27 (.int .u64 tu) (.int .u64 tv)
  rw [eW5, ecx] at hc
  rw [eW5, ecx]
  clear eW5 ecx
  obtain ⟨b, off, eab, hcell⟩ := (HI.out.same (hS.trans hS5)).cells (by omega)
  have h0 := hcell 0 (by omega)
  rw [Nat.add_zero] at h0
  obtain ⟨y, ey⟩ : ∃ y, xs.getD 0 0 = y := ⟨_, rfl⟩
  have HY := Lib.hid (show InP P Q y by
    have hl : 0 < xs.length := by rw [HLen.out]; omega
    rw [← ey, show xs.getD 0 0 = xs[0] by simp [List.getD, hl]]
    exact HX.out _ (List.getElem_mem hl))
  have HYU := Lib.hid (show U64 y by rw [← ey]; exact HI.out.bd 0)
  rw [ey] at h0
  subst eab
  have hn0 : (0 : Int) < n := by omega
  have hn1 : 0 < n := by omega
  have HB0 := Lib.hid (show GTC w bx tx cx b off P Q G H ra rn rc tu tw tv y W5.drew from GTC.same (⟨h0, hc.u, hc.v, hB4.out.same hS5⟩ : GTC w bx tx cx b off P Q G H ra rn rc tu tw tv y W5) (drew_same _))
  clear t0 t1 t2 b0 b1 b2 b3 b4 hS hS5 hc hcell h0 ey hB4
  go_region_held3 (fun w' => GTC w bx tx cx b off P Q G H ra rn rc tu tw tv y w')
    (first
      | exact HB0.out
      | assumption
      | go_keep)
    (fail)
  rename_i hHeld
  obtain ⟨x, ex⟩ : ∃ x, bits .xor .u64 tv tu = x := ⟨_, rfl⟩
  have HXU := Lib.hid (show U64 x by rw [← ex]; exact wf_U64 (wf_bits _ _ _ _))
  rw [ex]
  clear ex
  have hgp := HR.out.grp
  obtain ⟨d1, e1⟩ : ∃ k, prodI P [expI Q P G tw, tw] = k := ⟨_, rfl⟩
  obtain ⟨d2, e2⟩ : ∃ k, overI P (prodI P [tv, expI Q P y tw]) (expI Q P tu x) = k := ⟨_, rfl⟩
  obtain ⟨o, eo⟩ : ∃ k, overI P tv (prodI P xs) = k := ⟨_, rfl⟩
  obtain ⟨j, ej⟩ : ∃ k, prodI P xs = k := ⟨_, rfl⟩
  have EC3 := Lib.hid (show prodI P [tw, expI Q P G tw] = d1 by rw [prod_comm hgp, e1])
  have EC4 := Lib.hid (show prodI P [overI P tv (expI Q P tu x), expI Q P y tw] = d2 by rw [← cross_eq hgp HE.out.1 HXU.out.1 (expI_u _ _ _ _).1, e2])
  have EC1 := Lib.hid e1
  have EC2 := Lib.hid e2
  have EO := Lib.hid eo
  have EJ := Lib.hid ej
  clear hgp e1 e2 eo ej HB0
  obtain ⟨W6, eW6⟩ : ∃ W6, W5.drew = W6 := ⟨_, rfl⟩
  rw [eW6] at hHeld ⊢
  clear eW6
  go_upto_region 7 with fail
  go_region_held3 (fun w' => GTC w bx tx cx b off P Q G H ra rn rc tu tw tv y w')
    (first
      | (with_reducible refine GTC.same (by assumption) (drew_same _))
      | (with_reducible refine GTC.same (by assumption) ?_; with_reducible assumption)
      | assumption
      | go_keep)
    (first
      | (go_at_call 23; refine (cross_any P Q G H ra rn rc x y tu tw tv tw HU.out.1.1 HU.out.2.1.1 HU.out.2.1.2 HU.out.2.2.1.1 HXU.out.1 HXU.out.2 HYU.out.1 HUt.out.1.1 HUt.out.2.1 HUt.out.2.2 HUt.out.2.1.1 HUt.out.2.1.2 _).mono ?_; rintro e1 w6 ⟨rfl, hT3⟩; rw [EC1.out, EC2.out])
      | (go_at_call 24; refine (rcross_any P Q G H ra rn rc x y tu tw tv tw HU.out.1.1 HU.out.2.1.1 HU.out.2.1.2 HU.out.2.2.1.1 HXU.out.1 HXU.out.2 HYU.out.1 HUt.out.1.1 HUt.out.2.1 HUt.out.2.2 HUt.out.2.1.1 HUt.out.2.1.2 _).mono ?_; rintro e1 w6 ⟨rfl, hT3⟩; rw [EC3.out, EC4.out])
      | (go_at_call 13; refine (open_any P Q G H ra rn rc tu tv (some ⟨b, off, none⟩) n cap xs HU.out.1.1 HUt.out.2.2.1 _ (HI.out.same (GTC.base (bx := bx) (tx := tx) (cx := cx) (b := b) (off := off) (P := P) (Q := Q) (G := G) (H := H) (ra := ra) (rn := rn) (rc := rc) (tu := tu) (tw := tw) (tv := tv) (y := y) (by with_reducible assumption)))).mono ?_; rintro e1 w6 ⟨rfl, hT3⟩; rw [EO.out])
      | (go_at_call 25; refine (ropen_any P Q G H ra rn rc tu tv (some ⟨b, off, none⟩) n cap xs HU.out.1.1 HUt.out.2.2.1 _ (HI.out.same (GTC.base (bx := bx) (tx := tx) (cx := cx) (b := b) (off := off) (P := P) (Q := Q) (G := G) (H := H) (ra := ra) (rn := rn) (rc := rc) (tu := tu) (tw := tw) (tv := tv) (y := y) (by with_reducible assumption)))).mono ?_; rintro e1 w6 ⟨rfl, hT3⟩; rw [EO.out])
      | (go_at_call 26; refine (enter_any tu tv _).mono ?_; rintro e1 w6 ⟨rfl, hT3⟩)
      | (go_at_call 27; refine (renter_any tu tv _).mono ?_; rintro e1 w6 ⟨rfl, hT3⟩)
      | (go_at_call 28; refine (leave_any tu tw tv _).mono ?_; rintro e1 w6 ⟨rfl, hT3⟩)
      | (go_at_call 29; refine (rleave_any tu tw tv _).mono ?_; rintro e1 w6 ⟨rfl, hT3⟩)
      | (go_at_call 15; refine (join_any P Q G H ra rn rc (some ⟨b, off, none⟩) n cap xs HU.out.1.1 _ (HI.out.same (GTC.base (bx := bx) (tx := tx) (cx := cx) (b := b) (off := off) (P := P) (Q := Q) (G := G) (H := H) (ra := ra) (rn := rn) (rc := rc) (tu := tu) (tw := tw) (tv := tv) (y := y) (by with_reducible assumption)))).mono ?_; rintro e1 w6 ⟨rfl, hT3⟩; rw [EJ.out])
      | (go_at_call 30; refine (rjoin_any P Q G H ra rn rc (some ⟨b, off, none⟩) n cap xs HU.out.1.1 _ (HI.out.same (GTC.base (bx := bx) (tx := tx) (cx := cx) (b := b) (off := off) (P := P) (Q := Q) (G := G) (H := H) (ra := ra) (rn := rn) (rc := rc) (tu := tu) (tw := tw) (tv := tv) (y := y) (by with_reducible assumption)))).mono ?_; rintro e1 w6 ⟨rfl, hT3⟩; rw [EJ.out])
      | fail)
  rename_i hHeld
  go_wp2_with fail
  go_ret
  exact ⟨rfl, hHeld.base⟩
end Go.Proofs.Ytfoncfojljmimaa
