/- The walk of LinearExtracts. -/
import Derived.Test.YtlnkpbaibnfhhaaLinP
import Derived.Test.YtlnkpbaibnfhhaaAwake6
import Derived.Test.YtlnkpbaibnfhhaaW5
import Derived.Test.YtlnkpbaibnfhhaaLaw6B
import Derived.Deep.RegionHeld3
set_option linter.unusedVariables false
set_option linter.unusedSimpArgs false
namespace Go.Proofs.Ytlnkpbaibnfhhaa
open Go.RowKit NT
/-- the group's box, a claim's, two talks' -/
abbrev LXS (W0 : World) (gx cx lx : Nat) (P Q G H : Int) (ra : Option Addr) (rn rc : Nat) (u v : Value) (e : Int) (u1 v1 : Value) (f : Int) (u2 v2 : Value) (w : World) : Prop := w.cell? ⟨lx, 0, none⟩ = some (.int .u64 e) ∧ w.cell? ⟨lx, 1, none⟩ = some u1 ∧ w.cell? ⟨lx, 2, none⟩ = some v1 ∧ w.cell? ⟨lx, 3, none⟩ = some (.int .u64 f) ∧ w.cell? ⟨lx, 4, none⟩ = some u2 ∧ w.cell? ⟨lx, 5, none⟩ = some v2 ∧ ClS W0 gx cx P Q G H ra rn rc u v w
theorem LXS.same {W0 w w' : World} {gx cx lx : Nat} {P Q G H : Int} {ra : Option Addr} {rn rc : Nat} {u v : Value} {e : Int} {u1 v1 : Value} {f : Int} {u2 v2 : Value} (h : LXS W0 gx cx lx P Q G H ra rn rc u v e u1 v1 f u2 v2 w) (hs : Same w w') : LXS W0 gx cx lx P Q G H ra rn rc u v e u1 v1 f u2 v2 w' := ⟨same_cell hs h.1, same_cell hs h.2.1, same_cell hs h.2.2.1, same_cell hs h.2.2.2.1, same_cell hs h.2.2.2.2.1, same_cell hs h.2.2.2.2.2.1, h.2.2.2.2.2.2.same hs⟩
theorem LXS.base {W0 w : World} {gx cx lx : Nat} {P Q G H : Int} {ra : Option Addr} {rn rc : Nat} {u v : Value} {e : Int} {u1 v1 : Value} {f : Int} {u2 v2 : Value} (h : LXS W0 gx cx lx P Q G H ra rn rc u v e u1 v1 f u2 v2 w) : Same W0 w := h.2.2.2.2.2.2.base
theorem LXS.fresh {W0 w : World} {gx cx lx : Nat} {P Q G H : Int} {ra : Option Addr} {rn rc : Nat} {u v : Value} {e : Int} {u1 v1 : Value} {f : Int} {u2 v2 : Value} (h : LXS W0 gx cx lx P Q G H ra rn rc u v e u1 v1 f u2 v2 w) : LXS w gx cx lx P Q G H ra rn rc u v e u1 v1 f u2 v2 w := ⟨h.1, h.2.1, h.2.2.1, h.2.2.2.1, h.2.2.2.2.1, h.2.2.2.2.2.1, h.2.2.2.2.2.2.fresh⟩
theorem par_lx (w : World) (P Q G H : Int) (ra : Option Addr) (rn rc : Nat) (u v : Value) (e : Int) (u1 v1 : Value) (f : Int) (u2 v2 : Value) : ∃ W gx cx lx, ((w.alloc (.cells #[.int .u64 P, .int .u64 Q, .int .u64 G, .int .u64 H, .slice ra rn rc] 25)).alloc (.cells #[u, v] 29)).alloc (.cells #[.int .u64 e, u1, v1, .int .u64 f, u2, v2] 45) = W ∧ w.heap.size = gx ∧ gx + 1 = cx ∧ cx + 1 = lx ∧ LXS w gx cx lx P Q G H ra rn rc u v e u1 v1 f u2 v2 W := by
  obtain ⟨W1, gx, cx, e1, e2, e3, hB⟩ := par_claim w P Q G H ra rn rc u v
  have hz : W1.heap.size = cx + 1 := by rw [← e1, ← e3, ← e2]; simp
  have hS1 : Same W1 (W1.alloc (.cells #[.int .u64 e, u1, v1, .int .u64 f, u2, v2] 45)) := (Same.refl W1).alloc _
  refine ⟨_, gx, cx, cx + 1, by rw [e1], e2, e3, rfl, ?_, ?_, ?_, ?_, ?_, ?_, hB.same hS1⟩ <;> rw [← hz] <;> simp [World.cell?_alloc_new]
theorem mod_ne {e f Q : Int} (e0 : 0 ≤ e) (f0 : 0 ≤ f) (q0 : 0 ≤ Q) (h : e % Q ≠ f % Q) : e.toNat % Q.toNat ≠ f.toNat % Q.toNat := by
  obtain ⟨a, rfl⟩ := Int.eq_ofNat_of_zero_le e0
  obtain ⟨b, rfl⟩ := Int.eq_ofNat_of_zero_le f0
  obtain ⟨c, rfl⟩ := Int.eq_ofNat_of_zero_le q0
  intro k
  apply h
  simp only [Int.ofNat_eq_natCast, Int.toNat_natCast] at k ⊢
  exact_mod_cast k
theorem ints_nonneg {w : World} {a : Option Addr} {n : Nat} {xs : List Int} (h : IntsAt w a n xs) : ∀ i, 0 ≤ xs.getD i 0 := fun i => (h.bd i).1
set_option maxRecDepth 100000 in
set_option maxHeartbeats 6400000 in
theorem lawExtracts (P Q G H : Int) (ra : Option Addr) (rn rc : Nat) (rs : List RowD) (ta ba xa ya ua va : Option Addr) (tn tc bn bc xn xc yn yc un uc vn vc : Nat) (ts : List Int) (bs : List (List Int)) (e f : Int) (ys vs : List Int) (hP : U64 P) (hQ : U64 Q) (hG : U64 G) (hH : U64 H) (he : U64 e) (hf : U64 f) (w : World) (h : RowsAt w ra rn rs) (ht : IntsAt w ta tn ts) (hb : MatAt w ba bn bs) (hy : IntsAt w ya yn ys) (hv : IntsAt w va vn vs) :
    Calls Try.prog 9 #[.agg #[.int .u64 P, .int .u64 Q, .int .u64 G, .int .u64 H, .slice ra rn rc], .agg #[.slice ta tn tc, .slice ba bn bc], .agg #[.int .u64 e, .slice xa xn xc, .slice ya yn yc, .int .u64 f, .slice ua un uc, .slice va vn vc]] w fun e w' => e = .returned (.bool true) ∧ Same w w' := by
  obtain ⟨W, gx, cx, lx, eW, eg, ec, el, hB⟩ := par_lx w P Q G H ra rn rc (.slice ta tn tc) (.slice ba bn bc) e (.slice xa xn xc) (.slice ya yn yc) f (.slice ua un uc) (.slice va vn vc)
  have EW := Lib.hid eW
  have EG := Lib.hid eg
  have EC := Lib.hid ec
  have EL := Lib.hid el
  have H1 := Lib.hid h
  have HT := Lib.hid ht
  have HM := Lib.hid hb
  have HY := Lib.hid hy
  have HVV := Lib.hid hv
  have HU := Lib.hid (And.intro hP (And.intro hQ (And.intro hG hH)))
  have HE := Lib.hid (And.intro he hf)
  clear eW eg ec el h ht hb hy hv hP hQ hG hH he hf
  go_enter Try.func9, Try.ntmps9
  go_upto_region 1 with fail
  rw [EW.out, EG.out, EC.out, EL.out]
  go_wp2_with fail
  refine (awake6 _).mono ?_
  rintro e1 w1 ⟨rfl, hT⟩
  have HB := Lib.hid (LXS.same hB hT)
  clear hB hT
  obtain ⟨l0, l1, l2, l3, l4, l5, c0, c1, b0, b1, b2, b3, b4, hS⟩ := HB.out
  go_wp2_with fail
  refine (group5_any P Q G H ra rn rc rs HU.out.1 HU.out.2.1 HU.out.2.2.1 HU.out.2.2.2 _ (H1.out.same hS)).mono ?_
  rintro e1 w2 ⟨rfl, hT⟩
  by_cases hg : GoodP P Q G H rs
  case neg =>
    rw [goodB_no hg]
    clear hg
    go_wp2_with fail
    go_ret
    exact ⟨rfl, hS.trans hT⟩
  rw [goodB_yes hg]
  have HGR := Lib.hid hg.2.grp
  have HRT := Lib.hid (proved_root (rows_fine H1.out) hg.2.2.2.2.2.1).2.2
  replace HB := Lib.hid (LXS.same HB.out hT)
  clear hg l0 l1 l2 l3 l4 l5 c0 c1 b0 b1 b2 b3 b4 hS hT
  obtain ⟨l0, l1, l2, l3, l4, l5, c0, c1, b0, b1, b2, b3, b4, hS⟩ := HB.out
  go_wp2_with fail
  refine (few6_any ta ba _ tn tc bn bc 2 2 ts bs [ys, vs] _ (HT.out.same (hS.alloc _)) (HM.out.same (hS.alloc _)) (mat_two _ _ _ _ _ _ _ _ _ _ (HY.out.same hS) (HVV.out.same hS))).mono ?_
  rintro e1 w3 ⟨rfl, hT⟩
  by_cases hf : FewP ts bs [ys, vs]
  case neg =>
    rw [fewB_no hf]
    clear hf
    go_wp2_with fail
    go_ret
    exact ⟨rfl, hS.trans (((Same.refl _).alloc _).trans hT)⟩
  rw [fewB_yes hf]
  have hyn : yn ≤ 1000 := by
    have := hf.2.2.2 0 (by simp)
    have h2 := HY.out.len
    simp at this
    omega
  replace HB := Lib.hid (LXS.same HB.out (((Same.refl _).alloc _).trans hT))
  clear hf l0 l1 l2 l3 l4 l5 c0 c1 b0 b1 b2 b3 b4 hS hT
  obtain ⟨l0, l1, l2, l3, l4, l5, c0, c1, b0, b1, b2, b3, b4, hS⟩ := HB.out
  go_wp2_with fail
  refine (fake_any P Q G H ra rn rc ta ba ya tn tc bn bc yn yc ts bs e ys HU.out.1 HU.out.2.1 HE.out.1 HGR.out _ (HT.out.same hS) (HM.out.same hS) (HY.out.same hS)).mono ?_
  rintro e1 w4 ⟨aA, nA, cA, rfl, hi, hT⟩
  have IA := Lib.hid hi
  replace HB := Lib.hid (LXS.same HB.out hT)
  clear l0 l1 l2 l3 l4 l5 c0 c1 b0 b1 b2 b3 b4 hS hi hT
  obtain ⟨l0, l1, l2, l3, l4, l5, c0, c1, b0, b1, b2, b3, b4, hS⟩ := HB.out
  by_cases hok : ImgOk P Q ts bs ys
  case neg =>
    rw [imgB_no hok]
    clear hok
    go_wp2_with fail
    go_ret
    exact ⟨rfl, hS⟩
  rw [imgB_yes hok]
  have HA1 := Lib.hid (fake_acc HGR.out hok HE.out.1.1 (ints_nonneg HY.out))
  clear hok
  go_wp2_with fail
  refine (accepts_any P Q G H ra rn rc ta ba aA ya tn tc bn bc nA cA yn yc ts bs _ e ys HU.out.1 HU.out.2.1 HE.out.1 HGR.out _ (HT.out.same hS) (HM.out.same hS) IA.out (HY.out.same hS)).mono ?_
  rintro e1 w5 ⟨rfl, hT⟩
  rw [accB_yes HA1.out]
  obtain ⟨w6, ew6⟩ : ∃ w6, w5.drew = w6 := ⟨_, rfl⟩
  have hS6 : Same w5 w6 := by rw [← ew6]; exact drew_same _
  have HB5 := Lib.hid (LXS.same HB.out (hT.trans hS6))
  have IA6 := Lib.hid (IA.out.same (hT.trans hS6))
  have HB6 := Lib.hid HB5.out.fresh
  have HS := Lib.hid HB5.out.base
  have HT6 := Lib.hid (HT.out.same HB5.out.base)
  have HM6 := Lib.hid (HM.out.same HB5.out.base)
  have HY6 := Lib.hid (HY.out.same HB5.out.base)
  have HV6 := Lib.hid (HVV.out.same HB5.out.base)
  have EW6 := Lib.hid ew6
  clear ew6 hS6
  go_upto_region 10 with fail
  clear l0 l1 l2 l3 l4 l5 c0 c1 b0 b1 b2 b3 b4 hS hT
  by_cases ha : AccP P Q ts bs (fakL P Q ts bs e ys) f vs
  case neg =>
    have AC := Lib.hid (accB_no ha)
    clear ha
    refine wp_region_held_drew (S := fun w' => LXS w6 gx cx lx P Q G H ra rn rc (.slice ta tn tc) (.slice ba bn bc) e (.slice xa xn xc) (.slice ya yn yc) f (.slice ua un uc) (.slice va vn vc) w') (by kernel_rfl) (by rw [EW6.out]; exact HB6.out) (fun hHeld => ?_)
    rw [EW6.out] at hHeld ⊢
    refine wpAnyH_take (i := 0) (v := ?_) rfl (by kernel_rfl) (by kernel_rfl) (by kernel_rfl) (fun _ _ _ h => h) (Or.inl ⟨by rfl, ?_⟩) (by assumption) ?_
    rotate_left
    · intro w hSw; (try dsimp only at hSw); go_simp; try with_reducible rfl
    try simp only [Act.put, List.getElem_toArray, List.getElem_cons_succ, List.getElem_cons_zero, List.setIfInBounds_toArray, List.set_cons_zero, List.set_cons_succ]
    refine wpAnyH_take (i := 1) (v := ?_) rfl (by kernel_rfl) (by kernel_rfl) (by kernel_rfl) (fun _ _ _ h => h) (Or.inl ⟨by rfl, ?_⟩) (by assumption) ?_
    rotate_left
    · intro w hSw; (try dsimp only at hSw); go_simp; try with_reducible rfl
    try simp only [Act.put, List.getElem_toArray, List.getElem_cons_succ, List.getElem_cons_zero, List.setIfInBounds_toArray, List.set_cons_zero, List.set_cons_succ]
    refine wpAnyH_take (i := 2) (v := ?_) rfl (by kernel_rfl) (by kernel_rfl) (by kernel_rfl) (fun _ _ _ h => h) (Or.inl ⟨by rfl, ?_⟩) (by assumption) ?_
    rotate_left
    · intro w hSw; (try dsimp only at hSw); go_simp; try with_reducible rfl
    try simp only [Act.put, List.getElem_toArray, List.getElem_cons_succ, List.getElem_cons_zero, List.setIfInBounds_toArray, List.set_cons_zero, List.set_cons_succ]
    refine wpAnyH_take (i := 3) (v := ?_) rfl (by kernel_rfl) (by kernel_rfl) (by kernel_rfl) (fun _ _ _ h => h) (Or.inl ⟨by rfl, ?_⟩) (by assumption) ?_
    rotate_left
    · intro w hSw; (try dsimp only at hSw); go_simp; try with_reducible rfl
    try simp only [Act.put, List.getElem_toArray, List.getElem_cons_succ, List.getElem_cons_zero, List.setIfInBounds_toArray, List.set_cons_zero, List.set_cons_succ]
    refine wpAnyH_take (i := 4) (v := ?_) rfl (by kernel_rfl) (by kernel_rfl) (by kernel_rfl) (fun _ _ _ h => h) (Or.inl ⟨by rfl, ?_⟩) (by assumption) ?_
    rotate_left
    · intro w hSw; (try dsimp only at hSw); go_simp; try with_reducible rfl
    try simp only [Act.put, List.getElem_toArray, List.getElem_cons_succ, List.getElem_cons_zero, List.setIfInBounds_toArray, List.set_cons_zero, List.set_cons_succ]
    refine wpAnyH_take (i := 5) (v := ?_) rfl (by kernel_rfl) (by kernel_rfl) (by kernel_rfl) (fun _ _ _ h => h) (Or.inl ⟨by rfl, ?_⟩) (by assumption) ?_
    rotate_left
    · intro w hSw; (try dsimp only at hSw); go_simp; try with_reducible rfl
    try simp only [Act.put, List.getElem_toArray, List.getElem_cons_succ, List.getElem_cons_zero, List.setIfInBounds_toArray, List.set_cons_zero, List.set_cons_succ]
    refine wpAnyH_take (i := 6) (v := ?_) rfl (by kernel_rfl) (by kernel_rfl) (by kernel_rfl) (fun _ _ _ h => h) (Or.inl ⟨by rfl, ?_⟩) (by assumption) ?_
    rotate_left
    · intro w hSw; (try dsimp only at hSw); go_simp; try with_reducible rfl
    try simp only [Act.put, List.getElem_toArray, List.getElem_cons_succ, List.getElem_cons_zero, List.setIfInBounds_toArray, List.set_cons_zero, List.set_cons_succ]
    refine wpAnyH_take (i := 7) (v := ?_) rfl (by kernel_rfl) (by kernel_rfl) (by kernel_rfl) (fun _ _ _ h => h) (Or.inl ⟨by rfl, ?_⟩) (by assumption) ?_
    rotate_left
    · intro w hSw; (try dsimp only at hSw); go_simp; try with_reducible rfl
    try simp only [Act.put, List.getElem_toArray, List.getElem_cons_succ, List.getElem_cons_zero, List.setIfInBounds_toArray, List.set_cons_zero, List.set_cons_succ]
    refine wpAnyH_take (i := 8) (v := ?_) rfl (by kernel_rfl) (by kernel_rfl) (by kernel_rfl) (fun _ _ _ h => h) (Or.inl ⟨by rfl, ?_⟩) (by assumption) ?_
    rotate_left
    · intro w hSw; (try dsimp only at hSw); go_simp; try with_reducible rfl
    try simp only [Act.put, List.getElem_toArray, List.getElem_cons_succ, List.getElem_cons_zero, List.setIfInBounds_toArray, List.set_cons_zero, List.set_cons_succ]
    refine wpAnyH_ready (rs := [9]) (by kernel_rfl) (by simp) ?_
    refine AllReadyH.cons rfl (fun K hK => ?_) AllReadyH.nil
    go_simp
    refine (accepts_any P Q G H ra rn rc ta ba aA va tn tc bn bc nA cA vn vc ts bs _ f vs HU.out.1 HU.out.2.1 HE.out.2 HGR.out _ (HT6.out.same (LXS.base (W0 := w6) (gx := gx) (cx := cx) (lx := lx) (P := P) (Q := Q) (G := G) (H := H) (ra := ra) (rn := rn) (rc := rc) (u := .slice ta tn tc) (v := .slice ba bn bc) (e := e) (u1 := .slice xa xn xc) (v1 := .slice ya yn yc) (f := f) (u2 := .slice ua un uc) (v2 := .slice va vn vc) (by with_reducible assumption))) (HM6.out.same (LXS.base (W0 := w6) (gx := gx) (cx := cx) (lx := lx) (P := P) (Q := Q) (G := G) (H := H) (ra := ra) (rn := rn) (rc := rc) (u := .slice ta tn tc) (v := .slice ba bn bc) (e := e) (u1 := .slice xa xn xc) (v1 := .slice ya yn yc) (f := f) (u2 := .slice ua un uc) (v2 := .slice va vn vc) (by with_reducible assumption))) (IA6.out.same (LXS.base (W0 := w6) (gx := gx) (cx := cx) (lx := lx) (P := P) (Q := Q) (G := G) (H := H) (ra := ra) (rn := rn) (rc := rc) (u := .slice ta tn tc) (v := .slice ba bn bc) (e := e) (u1 := .slice xa xn xc) (v1 := .slice ya yn yc) (f := f) (u2 := .slice ua un uc) (v2 := .slice va vn vc) (by with_reducible assumption))) (HV6.out.same (LXS.base (W0 := w6) (gx := gx) (cx := cx) (lx := lx) (P := P) (Q := Q) (G := G) (H := H) (ra := ra) (rn := rn) (rc := rc) (u := .slice ta tn tc) (v := .slice ba bn bc) (e := e) (u1 := .slice xa xn xc) (v1 := .slice ya yn yc) (f := f) (u2 := .slice ua un uc) (v2 := .slice va vn vc) (by with_reducible assumption)))).mono ?_
    rintro e1 y1 ⟨rfl, hy1⟩
    rw [AC.out]
    go_wp2_with fail
    refine hK.out _ _ ?_ (fun hHeld => ?_)
    · exact LXS.same (by with_reducible assumption) (by with_reducible assumption)
    clear hK K
    try simp only [Act.put, List.getElem_toArray, List.getElem_cons_succ, List.getElem_cons_zero, List.setIfInBounds_toArray, List.set_cons_zero, List.set_cons_succ]
    refine wpAnyH_take (i := 10) (v := ?_) rfl (by kernel_rfl) (by kernel_rfl) (by kernel_rfl) (fun _ _ _ h => h) (Or.inl ⟨by rfl, ?_⟩) (by assumption) ?_
    rotate_left
    · intro w hSw; (try dsimp only at hSw); go_simp; try with_reducible rfl
    try simp only [Act.put, List.getElem_toArray, List.getElem_cons_succ, List.getElem_cons_zero, List.setIfInBounds_toArray, List.set_cons_zero, List.set_cons_succ]
    refine wpAnyH_take (i := 11) (v := ?_) rfl (by kernel_rfl) (by kernel_rfl) (by kernel_rfl) (fun _ _ _ h => h) (Or.inl ⟨by rfl, ?_⟩) (by assumption) ?_
    rotate_left
    · intro w hSw; (try dsimp only at hSw); go_simp; try with_reducible rfl
    try simp only [Act.put, List.getElem_toArray, List.getElem_cons_succ, List.getElem_cons_zero, List.setIfInBounds_toArray, List.set_cons_zero, List.set_cons_succ]
    refine wpAnyH_take (i := 12) (v := undef) rfl (by kernel_rfl) (by kernel_rfl) (by kernel_rfl) (fun _ _ _ h => h) (Or.inr ⟨by rfl, rfl⟩) (by assumption) ?_
    try simp only [Act.put, List.getElem_toArray, List.getElem_cons_succ, List.getElem_cons_zero, List.setIfInBounds_toArray, List.set_cons_zero, List.set_cons_succ]
    refine wpAnyH_take (i := 13) (v := undef) rfl (by kernel_rfl) (by kernel_rfl) (by kernel_rfl) (fun _ _ _ h => h) (Or.inr ⟨by rfl, rfl⟩) (by assumption) ?_
    try simp only [Act.put, List.getElem_toArray, List.getElem_cons_succ, List.getElem_cons_zero, List.setIfInBounds_toArray, List.set_cons_zero, List.set_cons_succ]
    refine wpAnyH_take (i := 14) (v := undef) rfl (by kernel_rfl) (by kernel_rfl) (by kernel_rfl) (fun _ _ _ h => h) (Or.inr ⟨by rfl, rfl⟩) (by assumption) ?_
    try simp only [Act.put, List.getElem_toArray, List.getElem_cons_succ, List.getElem_cons_zero, List.setIfInBounds_toArray, List.set_cons_zero, List.set_cons_succ]
    refine wpAnyH_take (i := 15) (v := undef) rfl (by kernel_rfl) (by kernel_rfl) (by kernel_rfl) (fun _ _ _ h => h) (Or.inr ⟨by rfl, rfl⟩) (by assumption) ?_
    try simp only [Act.put, List.getElem_toArray, List.getElem_cons_succ, List.getElem_cons_zero, List.setIfInBounds_toArray, List.set_cons_zero, List.set_cons_succ]
    refine wpAnyH_take (i := 16) (v := undef) rfl (by kernel_rfl) (by kernel_rfl) (by kernel_rfl) (fun _ _ _ h => h) (Or.inr ⟨by rfl, rfl⟩) (by assumption) ?_
    try simp only [Act.put, List.getElem_toArray, List.getElem_cons_succ, List.getElem_cons_zero, List.setIfInBounds_toArray, List.set_cons_zero, List.set_cons_succ]
    refine wpAnyH_take (i := 17) (v := undef) rfl (by kernel_rfl) (by kernel_rfl) (by kernel_rfl) (fun _ _ _ h => h) (Or.inr ⟨by rfl, rfl⟩) (by assumption) ?_
    try simp only [Act.put, List.getElem_toArray, List.getElem_cons_succ, List.getElem_cons_zero, List.setIfInBounds_toArray, List.set_cons_zero, List.set_cons_succ]
    refine wpAnyH_take (i := 18) (v := undef) rfl (by kernel_rfl) (by kernel_rfl) (by kernel_rfl) (fun _ _ _ h => h) (Or.inr ⟨by rfl, rfl⟩) (by assumption) ?_
    try simp only [Act.put, List.getElem_toArray, List.getElem_cons_succ, List.getElem_cons_zero, List.setIfInBounds_toArray, List.set_cons_zero, List.set_cons_succ]
    refine wpAnyH_take (i := 19) (v := undef) rfl (by kernel_rfl) (by kernel_rfl) (by kernel_rfl) (fun _ _ _ h => h) (Or.inr ⟨by rfl, rfl⟩) (by assumption) ?_
    try simp only [Act.put, List.getElem_toArray, List.getElem_cons_succ, List.getElem_cons_zero, List.setIfInBounds_toArray, List.set_cons_zero, List.set_cons_succ]
    refine wpAnyH_take (i := 20) (v := undef) rfl (by kernel_rfl) (by kernel_rfl) (by kernel_rfl) (fun _ _ _ h => h) (Or.inr ⟨by rfl, rfl⟩) (by assumption) ?_
    try simp only [Act.put, List.getElem_toArray, List.getElem_cons_succ, List.getElem_cons_zero, List.setIfInBounds_toArray, List.set_cons_zero, List.set_cons_succ]
    refine wpAnyH_take (i := 21) (v := undef) rfl (by kernel_rfl) (by kernel_rfl) (by kernel_rfl) (fun _ _ _ h => h) (Or.inr ⟨by rfl, rfl⟩) (by assumption) ?_
    try simp only [Act.put, List.getElem_toArray, List.getElem_cons_succ, List.getElem_cons_zero, List.setIfInBounds_toArray, List.set_cons_zero, List.set_cons_succ]
    refine wpAnyH_take (i := 22) (v := undef) rfl (by kernel_rfl) (by kernel_rfl) (by kernel_rfl) (fun _ _ _ h => h) (Or.inr ⟨by rfl, rfl⟩) (by assumption) ?_
    try simp only [Act.put, List.getElem_toArray, List.getElem_cons_succ, List.getElem_cons_zero, List.setIfInBounds_toArray, List.set_cons_zero, List.set_cons_succ]
    refine wpAnyH_take (i := 23) (v := undef) rfl (by kernel_rfl) (by kernel_rfl) (by kernel_rfl) (fun _ _ _ h => h) (Or.inr ⟨by rfl, rfl⟩) (by assumption) ?_
    try simp only [Act.put, List.getElem_toArray, List.getElem_cons_succ, List.getElem_cons_zero, List.setIfInBounds_toArray, List.set_cons_zero, List.set_cons_succ]
    refine wpAnyH_take (i := 24) (v := undef) rfl (by kernel_rfl) (by kernel_rfl) (by kernel_rfl) (fun _ _ _ h => h) (Or.inr ⟨by rfl, rfl⟩) (by assumption) ?_
    try simp only [Act.put, List.getElem_toArray, List.getElem_cons_succ, List.getElem_cons_zero, List.setIfInBounds_toArray, List.set_cons_zero, List.set_cons_succ]
    refine wpAnyH_take (i := 25) (v := ?_) rfl (by kernel_rfl) (by kernel_rfl) (by kernel_rfl) (fun _ _ _ h => h) (Or.inl ⟨by rfl, ?_⟩) (by assumption) ?_
    rotate_left
    · intro w hSw; (try dsimp only at hSw); go_simp; try with_reducible rfl
    try simp only [Act.put, List.getElem_toArray, List.getElem_cons_succ, List.getElem_cons_zero, List.setIfInBounds_toArray, List.set_cons_zero, List.set_cons_succ]
    refine wpAnyH_done (by kernel_rfl) ?_ _
    go_wp2_with fail
    go_ret
    exact ⟨rfl, HS.out.trans hHeld.base⟩
  have AC := Lib.hid (accB_yes ha)
  have HA2 := Lib.hid ha
  clear ha
  have hq0 : ¬ Q = 0 := by have := HGR.out.q5; omega
  obtain ⟨z1, ez1⟩ : ∃ z, e % Q = z := ⟨_, rfl⟩
  obtain ⟨z2, ez2⟩ : ∃ z, f % Q = z := ⟨_, rfl⟩
  have et1 : e.tmod Q = z1 := by rw [← ez1]; exact Int.tmod_eq_emod_of_nonneg HE.out.1.1
  have et2 : f.tmod Q = z2 := by rw [← ez2]; exact Int.tmod_eq_emod_of_nonneg HE.out.2.1
  have EZ := Lib.hid (And.intro ez1 ez2)
  clear ez1 ez2
  by_cases hz : z1 = z2
  · have dz : (z1 == z2) = true := by rw [hz]; simp
    clear hz
    refine wp_region_held_drew (S := fun w' => LXS w6 gx cx lx P Q G H ra rn rc (.slice ta tn tc) (.slice ba bn bc) e (.slice xa xn xc) (.slice ya yn yc) f (.slice ua un uc) (.slice va vn vc) w') (by kernel_rfl) (by rw [EW6.out]; exact HB6.out) (fun hHeld => ?_)
    rw [EW6.out] at hHeld ⊢
    refine wpAnyH_take (i := 0) (v := ?_) rfl (by kernel_rfl) (by kernel_rfl) (by kernel_rfl) (fun _ _ _ h => h) (Or.inl ⟨by rfl, ?_⟩) (by assumption) ?_
    rotate_left
    · intro w hSw; (try dsimp only at hSw); go_simp; try with_reducible rfl
    try simp only [Act.put, List.getElem_toArray, List.getElem_cons_succ, List.getElem_cons_zero, List.setIfInBounds_toArray, List.set_cons_zero, List.set_cons_succ]
    refine wpAnyH_take (i := 1) (v := ?_) rfl (by kernel_rfl) (by kernel_rfl) (by kernel_rfl) (fun _ _ _ h => h) (Or.inl ⟨by rfl, ?_⟩) (by assumption) ?_
    rotate_left
    · intro w hSw; (try dsimp only at hSw); go_simp; try with_reducible rfl
    try simp only [Act.put, List.getElem_toArray, List.getElem_cons_succ, List.getElem_cons_zero, List.setIfInBounds_toArray, List.set_cons_zero, List.set_cons_succ]
    refine wpAnyH_take (i := 2) (v := ?_) rfl (by kernel_rfl) (by kernel_rfl) (by kernel_rfl) (fun _ _ _ h => h) (Or.inl ⟨by rfl, ?_⟩) (by assumption) ?_
    rotate_left
    · intro w hSw; (try dsimp only at hSw); go_simp; try with_reducible rfl
    try simp only [Act.put, List.getElem_toArray, List.getElem_cons_succ, List.getElem_cons_zero, List.setIfInBounds_toArray, List.set_cons_zero, List.set_cons_succ]
    refine wpAnyH_take (i := 3) (v := ?_) rfl (by kernel_rfl) (by kernel_rfl) (by kernel_rfl) (fun _ _ _ h => h) (Or.inl ⟨by rfl, ?_⟩) (by assumption) ?_
    rotate_left
    · intro w hSw; (try dsimp only at hSw); go_simp; try with_reducible rfl
    try simp only [Act.put, List.getElem_toArray, List.getElem_cons_succ, List.getElem_cons_zero, List.setIfInBounds_toArray, List.set_cons_zero, List.set_cons_succ]
    refine wpAnyH_take (i := 4) (v := ?_) rfl (by kernel_rfl) (by kernel_rfl) (by kernel_rfl) (fun _ _ _ h => h) (Or.inl ⟨by rfl, ?_⟩) (by assumption) ?_
    rotate_left
    · intro w hSw; (try dsimp only at hSw); go_simp; try with_reducible rfl
    try simp only [Act.put, List.getElem_toArray, List.getElem_cons_succ, List.getElem_cons_zero, List.setIfInBounds_toArray, List.set_cons_zero, List.set_cons_succ]
    refine wpAnyH_take (i := 5) (v := ?_) rfl (by kernel_rfl) (by kernel_rfl) (by kernel_rfl) (fun _ _ _ h => h) (Or.inl ⟨by rfl, ?_⟩) (by assumption) ?_
    rotate_left
    · intro w hSw; (try dsimp only at hSw); go_simp; try with_reducible rfl
    try simp only [Act.put, List.getElem_toArray, List.getElem_cons_succ, List.getElem_cons_zero, List.setIfInBounds_toArray, List.set_cons_zero, List.set_cons_succ]
    refine wpAnyH_take (i := 6) (v := ?_) rfl (by kernel_rfl) (by kernel_rfl) (by kernel_rfl) (fun _ _ _ h => h) (Or.inl ⟨by rfl, ?_⟩) (by assumption) ?_
    rotate_left
    · intro w hSw; (try dsimp only at hSw); go_simp; try with_reducible rfl
    try simp only [Act.put, List.getElem_toArray, List.getElem_cons_succ, List.getElem_cons_zero, List.setIfInBounds_toArray, List.set_cons_zero, List.set_cons_succ]
    refine wpAnyH_take (i := 7) (v := ?_) rfl (by kernel_rfl) (by kernel_rfl) (by kernel_rfl) (fun _ _ _ h => h) (Or.inl ⟨by rfl, ?_⟩) (by assumption) ?_
    rotate_left
    · intro w hSw; (try dsimp only at hSw); go_simp; try with_reducible rfl
    try simp only [Act.put, List.getElem_toArray, List.getElem_cons_succ, List.getElem_cons_zero, List.setIfInBounds_toArray, List.set_cons_zero, List.set_cons_succ]
    refine wpAnyH_take (i := 8) (v := ?_) rfl (by kernel_rfl) (by kernel_rfl) (by kernel_rfl) (fun _ _ _ h => h) (Or.inl ⟨by rfl, ?_⟩) (by assumption) ?_
    rotate_left
    · intro w hSw; (try dsimp only at hSw); go_simp; try with_reducible rfl
    try simp only [Act.put, List.getElem_toArray, List.getElem_cons_succ, List.getElem_cons_zero, List.setIfInBounds_toArray, List.set_cons_zero, List.set_cons_succ]
    refine wpAnyH_ready (rs := [9]) (by kernel_rfl) (by simp) ?_
    refine AllReadyH.cons rfl (fun K hK => ?_) AllReadyH.nil
    go_simp
    refine (accepts_any P Q G H ra rn rc ta ba aA va tn tc bn bc nA cA vn vc ts bs _ f vs HU.out.1 HU.out.2.1 HE.out.2 HGR.out _ (HT6.out.same (LXS.base (W0 := w6) (gx := gx) (cx := cx) (lx := lx) (P := P) (Q := Q) (G := G) (H := H) (ra := ra) (rn := rn) (rc := rc) (u := .slice ta tn tc) (v := .slice ba bn bc) (e := e) (u1 := .slice xa xn xc) (v1 := .slice ya yn yc) (f := f) (u2 := .slice ua un uc) (v2 := .slice va vn vc) (by with_reducible assumption))) (HM6.out.same (LXS.base (W0 := w6) (gx := gx) (cx := cx) (lx := lx) (P := P) (Q := Q) (G := G) (H := H) (ra := ra) (rn := rn) (rc := rc) (u := .slice ta tn tc) (v := .slice ba bn bc) (e := e) (u1 := .slice xa xn xc) (v1 := .slice ya yn yc) (f := f) (u2 := .slice ua un uc) (v2 := .slice va vn vc) (by with_reducible assumption))) (IA6.out.same (LXS.base (W0 := w6) (gx := gx) (cx := cx) (lx := lx) (P := P) (Q := Q) (G := G) (H := H) (ra := ra) (rn := rn) (rc := rc) (u := .slice ta tn tc) (v := .slice ba bn bc) (e := e) (u1 := .slice xa xn xc) (v1 := .slice ya yn yc) (f := f) (u2 := .slice ua un uc) (v2 := .slice va vn vc) (by with_reducible assumption))) (HV6.out.same (LXS.base (W0 := w6) (gx := gx) (cx := cx) (lx := lx) (P := P) (Q := Q) (G := G) (H := H) (ra := ra) (rn := rn) (rc := rc) (u := .slice ta tn tc) (v := .slice ba bn bc) (e := e) (u1 := .slice xa xn xc) (v1 := .slice ya yn yc) (f := f) (u2 := .slice ua un uc) (v2 := .slice va vn vc) (by with_reducible assumption)))).mono ?_
    rintro e1 y1 ⟨rfl, hy1⟩
    rw [AC.out]
    go_wp2_with fail
    refine hK.out _ _ ?_ (fun hHeld => ?_)
    · exact LXS.same (by with_reducible assumption) (by with_reducible assumption)
    clear hK K
    try simp only [Act.put, List.getElem_toArray, List.getElem_cons_succ, List.getElem_cons_zero, List.setIfInBounds_toArray, List.set_cons_zero, List.set_cons_succ]
    refine wpAnyH_take (i := 10) (v := ?_) rfl (by kernel_rfl) (by kernel_rfl) (by kernel_rfl) (fun _ _ _ h => h) (Or.inl ⟨by rfl, ?_⟩) (by assumption) ?_
    rotate_left
    · intro w hSw; (try dsimp only at hSw); go_simp; try with_reducible rfl
    try simp only [Act.put, List.getElem_toArray, List.getElem_cons_succ, List.getElem_cons_zero, List.setIfInBounds_toArray, List.set_cons_zero, List.set_cons_succ]
    refine wpAnyH_take (i := 11) (v := ?_) rfl (by kernel_rfl) (by kernel_rfl) (by kernel_rfl) (fun _ _ _ h => h) (Or.inl ⟨by rfl, ?_⟩) (by assumption) ?_
    rotate_left
    · intro w hSw; (try dsimp only at hSw); go_simp; try with_reducible rfl
    try simp only [Act.put, List.getElem_toArray, List.getElem_cons_succ, List.getElem_cons_zero, List.setIfInBounds_toArray, List.set_cons_zero, List.set_cons_succ]
    refine wpAnyH_take (i := 12) (v := ?_) rfl (by kernel_rfl) (by kernel_rfl) (by kernel_rfl) (fun _ _ _ h => h) (Or.inl ⟨by rfl, ?_⟩) (by assumption) ?_
    rotate_left
    · intro w hSw; (try dsimp only at hSw); go_simp; try with_reducible rfl
    try simp only [Act.put, List.getElem_toArray, List.getElem_cons_succ, List.getElem_cons_zero, List.setIfInBounds_toArray, List.set_cons_zero, List.set_cons_succ]
    refine wpAnyH_take (i := 13) (v := ?_) rfl (by kernel_rfl) (by kernel_rfl) (by kernel_rfl) (fun _ _ _ h => h) (Or.inl ⟨by rfl, ?_⟩) (by assumption) ?_
    rotate_left
    · intro w hSw; (try dsimp only at hSw); go_simp; try with_reducible rfl
    try simp only [Act.put, List.getElem_toArray, List.getElem_cons_succ, List.getElem_cons_zero, List.setIfInBounds_toArray, List.set_cons_zero, List.set_cons_succ]
    refine wpAnyH_take (i := 14) (v := ?_) rfl (by kernel_rfl) (by kernel_rfl) (by kernel_rfl) (fun _ _ _ h => h) (Or.inl ⟨by rfl, ?_⟩) (by assumption) ?_
    rotate_left
    · intro w hSw; (try dsimp only at hSw); go_simp; try with_reducible rfl
    try simp only [Act.put, List.getElem_toArray, List.getElem_cons_succ, List.getElem_cons_zero, List.setIfInBounds_toArray, List.set_cons_zero, List.set_cons_succ]
    refine wpAnyH_take (i := 15) (v := ?_) rfl (by kernel_rfl) (by kernel_rfl) (by kernel_rfl) (fun _ _ _ h => h) (Or.inl ⟨by rfl, ?_⟩) (by assumption) ?_
    rotate_left
    · intro w hSw; (try dsimp only at hSw); go_simp; try with_reducible rfl
    try simp only [Act.put, List.getElem_toArray, List.getElem_cons_succ, List.getElem_cons_zero, List.setIfInBounds_toArray, List.set_cons_zero, List.set_cons_succ]
    refine wpAnyH_take (i := 16) (v := ?_) rfl (by kernel_rfl) (by kernel_rfl) (by kernel_rfl) (fun _ _ _ h => h) (Or.inl ⟨by rfl, ?_⟩) (by assumption) ?_
    rotate_left
    · intro w hSw; (try dsimp only at hSw); go_simp; try with_reducible rfl
    try simp only [Act.put, List.getElem_toArray, List.getElem_cons_succ, List.getElem_cons_zero, List.setIfInBounds_toArray, List.set_cons_zero, List.set_cons_succ]
    refine wpAnyH_take (i := 17) (v := ?_) rfl (by kernel_rfl) (by kernel_rfl) (by kernel_rfl) (fun _ _ _ h => h) (Or.inl ⟨by rfl, ?_⟩) (by assumption) ?_
    rotate_left
    · intro w hSw; (try dsimp only at hSw); go_simp; try with_reducible rfl
    try simp only [Act.put, List.getElem_toArray, List.getElem_cons_succ, List.getElem_cons_zero, List.setIfInBounds_toArray, List.set_cons_zero, List.set_cons_succ]
    refine wpAnyH_take (i := 18) (v := ?_) rfl (by kernel_rfl) (by kernel_rfl) (by kernel_rfl) (fun _ _ _ h => h) (Or.inl ⟨by rfl, ?_⟩) (by assumption) ?_
    rotate_left
    · intro w hSw; (try dsimp only at hSw); go_simp; try with_reducible rfl
    try simp only [Act.put, List.getElem_toArray, List.getElem_cons_succ, List.getElem_cons_zero, List.setIfInBounds_toArray, List.set_cons_zero, List.set_cons_succ]
    refine wpAnyH_take (i := 19) (v := ?_) rfl (by kernel_rfl) (by kernel_rfl) (by kernel_rfl) (fun _ _ _ h => h) (Or.inl ⟨by rfl, ?_⟩) (by assumption) ?_
    rotate_left
    · intro w hSw; (try dsimp only at hSw); go_simp; try with_reducible rfl
    try simp only [Act.put, List.getElem_toArray, List.getElem_cons_succ, List.getElem_cons_zero, List.setIfInBounds_toArray, List.set_cons_zero, List.set_cons_succ]
    refine wpAnyH_take (i := 20) (v := ?_) rfl (by kernel_rfl) (by kernel_rfl) (by kernel_rfl) (fun _ _ _ h => h) (Or.inl ⟨by rfl, ?_⟩) (by assumption) ?_
    rotate_left
    · intro w hSw; (try dsimp only at hSw); go_simp; try with_reducible rfl
    try simp only [Act.put, List.getElem_toArray, List.getElem_cons_succ, List.getElem_cons_zero, List.setIfInBounds_toArray, List.set_cons_zero, List.set_cons_succ]
    refine wpAnyH_take (i := 21) (v := ?_) rfl (by kernel_rfl) (by kernel_rfl) (by kernel_rfl) (fun _ _ _ h => h) (Or.inl ⟨by rfl, ?_⟩) (by assumption) ?_
    rotate_left
    · intro w hSw; (try dsimp only at hSw); go_simp; try with_reducible rfl
    try simp only [Act.put, List.getElem_toArray, List.getElem_cons_succ, List.getElem_cons_zero, List.setIfInBounds_toArray, List.set_cons_zero, List.set_cons_succ]
    refine wpAnyH_take (i := 22) (v := ?_) rfl (by kernel_rfl) (by kernel_rfl) (by kernel_rfl) (fun _ _ _ h => h) (Or.inl ⟨by rfl, ?_⟩) (by assumption) ?_
    rotate_left
    · intro w hSw; (try dsimp only at hSw); go_simp; try with_reducible rfl
    try simp only [Act.put, List.getElem_toArray, List.getElem_cons_succ, List.getElem_cons_zero, List.setIfInBounds_toArray, List.set_cons_zero, List.set_cons_succ]
    refine wpAnyH_take (i := 23) (v := ?_) rfl (by kernel_rfl) (by kernel_rfl) (by kernel_rfl) (fun _ _ _ h => h) (Or.inl ⟨by rfl, ?_⟩) (by assumption) ?_
    rotate_left
    · intro w hSw; (try dsimp only at hSw); go_simp; try with_reducible rfl
    try simp only [Act.put, List.getElem_toArray, List.getElem_cons_succ, List.getElem_cons_zero, List.setIfInBounds_toArray, List.set_cons_zero, List.set_cons_succ]
    refine wpAnyH_take (i := 24) (v := ?_) rfl (by kernel_rfl) (by kernel_rfl) (by kernel_rfl) (fun _ _ _ h => h) (Or.inl ⟨by rfl, ?_⟩) (by assumption) ?_
    rotate_left
    · intro w hSw; (try dsimp only at hSw); go_simp; try with_reducible rfl
    try simp only [Act.put, List.getElem_toArray, List.getElem_cons_succ, List.getElem_cons_zero, List.setIfInBounds_toArray, List.set_cons_zero, List.set_cons_succ]
    refine wpAnyH_take (i := 25) (v := ?_) rfl (by kernel_rfl) (by kernel_rfl) (by kernel_rfl) (fun _ _ _ h => h) (Or.inl ⟨by rfl, ?_⟩) (by assumption) ?_
    rotate_left
    · intro w hSw; (try dsimp only at hSw); go_simp; try with_reducible rfl
    try simp only [Act.put, List.getElem_toArray, List.getElem_cons_succ, List.getElem_cons_zero, List.setIfInBounds_toArray, List.set_cons_zero, List.set_cons_succ]
    refine wpAnyH_done (by kernel_rfl) ?_ _
    go_wp2_with fail
    go_ret
    exact ⟨rfl, HS.out.trans hHeld.base⟩
  have dz : (z1 == z2) = false := by simp; exact hz
  have HX := Lib.hid (ext_holds HGR.out HRT.out.choose_spec HE.out.1.1 HE.out.2.1 (ints_nonneg HY.out) (ints_nonneg HVV.out) HA1.out HA2.out (mod_ne HE.out.1.1 HE.out.2.1 HU.out.2.1.1 (by rw [EZ.out.1, EZ.out.2]; exact hz)))
  clear hz
  refine wp_region_held_drew (S := fun w' => LXS w6 gx cx lx P Q G H ra rn rc (.slice ta tn tc) (.slice ba bn bc) e (.slice xa xn xc) (.slice ya yn yc) f (.slice ua un uc) (.slice va vn vc) w') (by kernel_rfl) (by rw [EW6.out]; exact HB6.out) (fun hHeld => ?_)
  rw [EW6.out] at hHeld ⊢
  refine wpAnyH_take (i := 0) (v := ?_) rfl (by kernel_rfl) (by kernel_rfl) (by kernel_rfl) (fun _ _ _ h => h) (Or.inl ⟨by rfl, ?_⟩) (by assumption) ?_
  rotate_left
  · intro w hSw; (try dsimp only at hSw); go_simp; try with_reducible rfl
  try simp only [Act.put, List.getElem_toArray, List.getElem_cons_succ, List.getElem_cons_zero, List.setIfInBounds_toArray, List.set_cons_zero, List.set_cons_succ]
  refine wpAnyH_take (i := 1) (v := ?_) rfl (by kernel_rfl) (by kernel_rfl) (by kernel_rfl) (fun _ _ _ h => h) (Or.inl ⟨by rfl, ?_⟩) (by assumption) ?_
  rotate_left
  · intro w hSw; (try dsimp only at hSw); go_simp; try with_reducible rfl
  try simp only [Act.put, List.getElem_toArray, List.getElem_cons_succ, List.getElem_cons_zero, List.setIfInBounds_toArray, List.set_cons_zero, List.set_cons_succ]
  refine wpAnyH_take (i := 2) (v := ?_) rfl (by kernel_rfl) (by kernel_rfl) (by kernel_rfl) (fun _ _ _ h => h) (Or.inl ⟨by rfl, ?_⟩) (by assumption) ?_
  rotate_left
  · intro w hSw; (try dsimp only at hSw); go_simp; try with_reducible rfl
  try simp only [Act.put, List.getElem_toArray, List.getElem_cons_succ, List.getElem_cons_zero, List.setIfInBounds_toArray, List.set_cons_zero, List.set_cons_succ]
  refine wpAnyH_take (i := 3) (v := ?_) rfl (by kernel_rfl) (by kernel_rfl) (by kernel_rfl) (fun _ _ _ h => h) (Or.inl ⟨by rfl, ?_⟩) (by assumption) ?_
  rotate_left
  · intro w hSw; (try dsimp only at hSw); go_simp; try with_reducible rfl
  try simp only [Act.put, List.getElem_toArray, List.getElem_cons_succ, List.getElem_cons_zero, List.setIfInBounds_toArray, List.set_cons_zero, List.set_cons_succ]
  refine wpAnyH_take (i := 4) (v := ?_) rfl (by kernel_rfl) (by kernel_rfl) (by kernel_rfl) (fun _ _ _ h => h) (Or.inl ⟨by rfl, ?_⟩) (by assumption) ?_
  rotate_left
  · intro w hSw; (try dsimp only at hSw); go_simp; try with_reducible rfl
  try simp only [Act.put, List.getElem_toArray, List.getElem_cons_succ, List.getElem_cons_zero, List.setIfInBounds_toArray, List.set_cons_zero, List.set_cons_succ]
  refine wpAnyH_take (i := 5) (v := ?_) rfl (by kernel_rfl) (by kernel_rfl) (by kernel_rfl) (fun _ _ _ h => h) (Or.inl ⟨by rfl, ?_⟩) (by assumption) ?_
  rotate_left
  · intro w hSw; (try dsimp only at hSw); go_simp; try with_reducible rfl
  try simp only [Act.put, List.getElem_toArray, List.getElem_cons_succ, List.getElem_cons_zero, List.setIfInBounds_toArray, List.set_cons_zero, List.set_cons_succ]
  refine wpAnyH_take (i := 6) (v := ?_) rfl (by kernel_rfl) (by kernel_rfl) (by kernel_rfl) (fun _ _ _ h => h) (Or.inl ⟨by rfl, ?_⟩) (by assumption) ?_
  rotate_left
  · intro w hSw; (try dsimp only at hSw); go_simp; try with_reducible rfl
  try simp only [Act.put, List.getElem_toArray, List.getElem_cons_succ, List.getElem_cons_zero, List.setIfInBounds_toArray, List.set_cons_zero, List.set_cons_succ]
  refine wpAnyH_take (i := 7) (v := ?_) rfl (by kernel_rfl) (by kernel_rfl) (by kernel_rfl) (fun _ _ _ h => h) (Or.inl ⟨by rfl, ?_⟩) (by assumption) ?_
  rotate_left
  · intro w hSw; (try dsimp only at hSw); go_simp; try with_reducible rfl
  try simp only [Act.put, List.getElem_toArray, List.getElem_cons_succ, List.getElem_cons_zero, List.setIfInBounds_toArray, List.set_cons_zero, List.set_cons_succ]
  refine wpAnyH_take (i := 8) (v := ?_) rfl (by kernel_rfl) (by kernel_rfl) (by kernel_rfl) (fun _ _ _ h => h) (Or.inl ⟨by rfl, ?_⟩) (by assumption) ?_
  rotate_left
  · intro w hSw; (try dsimp only at hSw); go_simp; try with_reducible rfl
  try simp only [Act.put, List.getElem_toArray, List.getElem_cons_succ, List.getElem_cons_zero, List.setIfInBounds_toArray, List.set_cons_zero, List.set_cons_succ]
  refine wpAnyH_ready (rs := [9]) (by kernel_rfl) (by simp) ?_
  refine AllReadyH.cons rfl (fun K hK => ?_) AllReadyH.nil
  go_simp
  refine (accepts_any P Q G H ra rn rc ta ba aA va tn tc bn bc nA cA vn vc ts bs _ f vs HU.out.1 HU.out.2.1 HE.out.2 HGR.out _ (HT6.out.same (LXS.base (W0 := w6) (gx := gx) (cx := cx) (lx := lx) (P := P) (Q := Q) (G := G) (H := H) (ra := ra) (rn := rn) (rc := rc) (u := .slice ta tn tc) (v := .slice ba bn bc) (e := e) (u1 := .slice xa xn xc) (v1 := .slice ya yn yc) (f := f) (u2 := .slice ua un uc) (v2 := .slice va vn vc) (by with_reducible assumption))) (HM6.out.same (LXS.base (W0 := w6) (gx := gx) (cx := cx) (lx := lx) (P := P) (Q := Q) (G := G) (H := H) (ra := ra) (rn := rn) (rc := rc) (u := .slice ta tn tc) (v := .slice ba bn bc) (e := e) (u1 := .slice xa xn xc) (v1 := .slice ya yn yc) (f := f) (u2 := .slice ua un uc) (v2 := .slice va vn vc) (by with_reducible assumption))) (IA6.out.same (LXS.base (W0 := w6) (gx := gx) (cx := cx) (lx := lx) (P := P) (Q := Q) (G := G) (H := H) (ra := ra) (rn := rn) (rc := rc) (u := .slice ta tn tc) (v := .slice ba bn bc) (e := e) (u1 := .slice xa xn xc) (v1 := .slice ya yn yc) (f := f) (u2 := .slice ua un uc) (v2 := .slice va vn vc) (by with_reducible assumption))) (HV6.out.same (LXS.base (W0 := w6) (gx := gx) (cx := cx) (lx := lx) (P := P) (Q := Q) (G := G) (H := H) (ra := ra) (rn := rn) (rc := rc) (u := .slice ta tn tc) (v := .slice ba bn bc) (e := e) (u1 := .slice xa xn xc) (v1 := .slice ya yn yc) (f := f) (u2 := .slice ua un uc) (v2 := .slice va vn vc) (by with_reducible assumption)))).mono ?_
  rintro e1 y1 ⟨rfl, hy1⟩
  rw [AC.out]
  go_wp2_with fail
  refine hK.out _ _ ?_ (fun hHeld => ?_)
  · exact LXS.same (by with_reducible assumption) (by with_reducible assumption)
  clear hK K
  try simp only [Act.put, List.getElem_toArray, List.getElem_cons_succ, List.getElem_cons_zero, List.setIfInBounds_toArray, List.set_cons_zero, List.set_cons_succ]
  refine wpAnyH_take (i := 10) (v := ?_) rfl (by kernel_rfl) (by kernel_rfl) (by kernel_rfl) (fun _ _ _ h => h) (Or.inl ⟨by rfl, ?_⟩) (by assumption) ?_
  rotate_left
  · intro w hSw; (try dsimp only at hSw); go_simp; try with_reducible rfl
  try simp only [Act.put, List.getElem_toArray, List.getElem_cons_succ, List.getElem_cons_zero, List.setIfInBounds_toArray, List.set_cons_zero, List.set_cons_succ]
  refine wpAnyH_take (i := 11) (v := ?_) rfl (by kernel_rfl) (by kernel_rfl) (by kernel_rfl) (fun _ _ _ h => h) (Or.inl ⟨by rfl, ?_⟩) (by assumption) ?_
  rotate_left
  · intro w hSw; (try dsimp only at hSw); go_simp; try with_reducible rfl
  try simp only [Act.put, List.getElem_toArray, List.getElem_cons_succ, List.getElem_cons_zero, List.setIfInBounds_toArray, List.set_cons_zero, List.set_cons_succ]
  refine wpAnyH_take (i := 12) (v := ?_) rfl (by kernel_rfl) (by kernel_rfl) (by kernel_rfl) (fun _ _ _ h => h) (Or.inl ⟨by rfl, ?_⟩) (by assumption) ?_
  rotate_left
  · intro w hSw; (try dsimp only at hSw); go_simp; try with_reducible rfl
  try simp only [Act.put, List.getElem_toArray, List.getElem_cons_succ, List.getElem_cons_zero, List.setIfInBounds_toArray, List.set_cons_zero, List.set_cons_succ]
  refine wpAnyH_take (i := 13) (v := ?_) rfl (by kernel_rfl) (by kernel_rfl) (by kernel_rfl) (fun _ _ _ h => h) (Or.inl ⟨by rfl, ?_⟩) (by assumption) ?_
  rotate_left
  · intro w hSw; (try dsimp only at hSw); go_simp; try with_reducible rfl
  try simp only [Act.put, List.getElem_toArray, List.getElem_cons_succ, List.getElem_cons_zero, List.setIfInBounds_toArray, List.set_cons_zero, List.set_cons_succ]
  refine wpAnyH_take (i := 14) (v := ?_) rfl (by kernel_rfl) (by kernel_rfl) (by kernel_rfl) (fun _ _ _ h => h) (Or.inl ⟨by rfl, ?_⟩) (by assumption) ?_
  rotate_left
  · intro w hSw; (try dsimp only at hSw); go_simp; try with_reducible rfl
  try simp only [Act.put, List.getElem_toArray, List.getElem_cons_succ, List.getElem_cons_zero, List.setIfInBounds_toArray, List.set_cons_zero, List.set_cons_succ]
  refine wpAnyH_take (i := 15) (v := ?_) rfl (by kernel_rfl) (by kernel_rfl) (by kernel_rfl) (fun _ _ _ h => h) (Or.inl ⟨by rfl, ?_⟩) (by assumption) ?_
  rotate_left
  · intro w hSw; (try dsimp only at hSw); go_simp; try with_reducible rfl
  try simp only [Act.put, List.getElem_toArray, List.getElem_cons_succ, List.getElem_cons_zero, List.setIfInBounds_toArray, List.set_cons_zero, List.set_cons_succ]
  refine wpAnyH_take (i := 16) (v := ?_) rfl (by kernel_rfl) (by kernel_rfl) (by kernel_rfl) (fun _ _ _ h => h) (Or.inl ⟨by rfl, ?_⟩) (by assumption) ?_
  rotate_left
  · intro w hSw; (try dsimp only at hSw); go_simp; try with_reducible rfl
  try simp only [Act.put, List.getElem_toArray, List.getElem_cons_succ, List.getElem_cons_zero, List.setIfInBounds_toArray, List.set_cons_zero, List.set_cons_succ]
  refine wpAnyH_take (i := 17) (v := ?_) rfl (by kernel_rfl) (by kernel_rfl) (by kernel_rfl) (fun _ _ _ h => h) (Or.inl ⟨by rfl, ?_⟩) (by assumption) ?_
  rotate_left
  · intro w hSw; (try dsimp only at hSw); go_simp; try with_reducible rfl
  try simp only [Act.put, List.getElem_toArray, List.getElem_cons_succ, List.getElem_cons_zero, List.setIfInBounds_toArray, List.set_cons_zero, List.set_cons_succ]
  refine wpAnyH_take (i := 18) (v := ?_) rfl (by kernel_rfl) (by kernel_rfl) (by kernel_rfl) (fun _ _ _ h => h) (Or.inl ⟨by rfl, ?_⟩) (by assumption) ?_
  rotate_left
  · intro w hSw; (try dsimp only at hSw); go_simp; try with_reducible rfl
  try simp only [Act.put, List.getElem_toArray, List.getElem_cons_succ, List.getElem_cons_zero, List.setIfInBounds_toArray, List.set_cons_zero, List.set_cons_succ]
  refine wpAnyH_take (i := 19) (v := ?_) rfl (by kernel_rfl) (by kernel_rfl) (by kernel_rfl) (fun _ _ _ h => h) (Or.inl ⟨by rfl, ?_⟩) (by assumption) ?_
  rotate_left
  · intro w hSw; (try dsimp only at hSw); go_simp; try with_reducible rfl
  try simp only [Act.put, List.getElem_toArray, List.getElem_cons_succ, List.getElem_cons_zero, List.setIfInBounds_toArray, List.set_cons_zero, List.set_cons_succ]
  refine wpAnyH_take (i := 20) (v := ?_) rfl (by kernel_rfl) (by kernel_rfl) (by kernel_rfl) (fun _ _ _ h => h) (Or.inl ⟨by rfl, ?_⟩) (by assumption) ?_
  rotate_left
  · intro w hSw; (try dsimp only at hSw); go_simp; try with_reducible rfl
  try simp only [Act.put, List.getElem_toArray, List.getElem_cons_succ, List.getElem_cons_zero, List.setIfInBounds_toArray, List.set_cons_zero, List.set_cons_succ]
  refine wpAnyH_take (i := 21) (v := ?_) rfl (by kernel_rfl) (by kernel_rfl) (by kernel_rfl) (fun _ _ _ h => h) (Or.inl ⟨by rfl, ?_⟩) (by assumption) ?_
  rotate_left
  · intro w hSw; (try dsimp only at hSw); go_simp; try with_reducible rfl
  try simp only [Act.put, List.getElem_toArray, List.getElem_cons_succ, List.getElem_cons_zero, List.setIfInBounds_toArray, List.set_cons_zero, List.set_cons_succ]
  refine wpAnyH_take (i := 22) (v := ?_) rfl (by kernel_rfl) (by kernel_rfl) (by kernel_rfl) (fun _ _ _ h => h) (Or.inl ⟨by rfl, ?_⟩) (by assumption) ?_
  rotate_left
  · intro w hSw; (try dsimp only at hSw); go_simp; try with_reducible rfl
  try simp only [Act.put, List.getElem_toArray, List.getElem_cons_succ, List.getElem_cons_zero, List.setIfInBounds_toArray, List.set_cons_zero, List.set_cons_succ]
  refine wpAnyH_take (i := 23) (v := ?_) rfl (by kernel_rfl) (by kernel_rfl) (by kernel_rfl) (fun _ _ _ h => h) (Or.inl ⟨by rfl, ?_⟩) (by assumption) ?_
  rotate_left
  · intro w hSw; (try dsimp only at hSw); go_simp; try with_reducible rfl
  try simp only [Act.put, List.getElem_toArray, List.getElem_cons_succ, List.getElem_cons_zero, List.setIfInBounds_toArray, List.set_cons_zero, List.set_cons_succ]
  refine wpAnyH_take (i := 24) (v := ?_) rfl (by kernel_rfl) (by kernel_rfl) (by kernel_rfl) (fun _ _ _ h => h) (Or.inl ⟨by rfl, ?_⟩) (by assumption) ?_
  rotate_left
  · intro w hSw; (try dsimp only at hSw); go_simp; try with_reducible rfl
  try simp only [Act.put, List.getElem_toArray, List.getElem_cons_succ, List.getElem_cons_zero, List.setIfInBounds_toArray, List.set_cons_zero, List.set_cons_succ]
  refine wpAnyH_take (i := 25) (v := ?_) rfl (by kernel_rfl) (by kernel_rfl) (by kernel_rfl) (fun _ _ _ h => h) (Or.inl ⟨by rfl, ?_⟩) (by assumption) ?_
  rotate_left
  · intro w hSw; (try dsimp only at hSw); go_simp; try with_reducible rfl
  try simp only [Act.put, List.getElem_toArray, List.getElem_cons_succ, List.getElem_cons_zero, List.setIfInBounds_toArray, List.set_cons_zero, List.set_cons_succ]
  refine wpAnyH_done (by kernel_rfl) ?_ _
  have HB7 := Lib.hid hHeld
  clear hHeld dz et1 et2 hq0
  obtain ⟨l0, l1, l2, l3, l4, l5, c0, c1, b0, b1, b2, b3, b4, hS⟩ := HB7.out
  go_wp2_with fail
  refine (extract_any P Q G H ra rn rc e f ya va yn yc vn vc ys vs HU.out.1 HU.out.2.1 HE.out.1 HE.out.2 hyn _ (HY6.out.same hS) (HV6.out.same hS)).mono ?_
  rintro e1 w8 ⟨aE, nE, cE, rfl, hi, hT⟩
  rw [HX.out.1]
  have IE := Lib.hid hi
  have HB8 := Lib.hid (LXS.same HB7.out hT)
  clear l0 l1 l2 l3 l4 l5 c0 c1 b0 b1 b2 b3 b4 hS hi hT
  obtain ⟨l0, l1, l2, l3, l4, l5, c0, c1, b0, b1, b2, b3, b4, hS⟩ := HB8.out
  go_wp2_with fail
  refine (holds6_any P Q G H ra rn rc ta ba aE tn tc bn bc nE cE ts bs _ HU.out.1 HU.out.2.1 HGR.out _ (HT6.out.same hS) (HM6.out.same hS) IE.out).mono ?_
  rintro e1 w9 ⟨rfl, hT⟩
  rw [HX.out.2]
  go_wp2_with fail
  go_ret
  exact ⟨rfl, HS.out.trans (hS.trans hT)⟩
end Go.Proofs.Ytlnkpbaibnfhhaa
