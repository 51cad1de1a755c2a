/- The walk of LinearBoth. -/
import Derived.Test.YtlnkpbaibnfhhaaLinB
import Derived.Test.YtlnkpbaibnfhhaaLaw6D
set_option linter.unusedVariables false
set_option linter.unusedSimpArgs false
set_option pp.deepTerms true
set_option pp.maxSteps 1000000
namespace Go.Proofs.Ytlnkpbaibnfhhaa
open Go.RowKit NT
/-- the group's box, two talks' -/
abbrev LBS (W0 : World) (gx lx : Nat) (P Q G H : Int) (ra : Option Addr) (rn rc : Nat) (e : Int) (u1 v1 : Value) (f : Int) (u2 v2 : Value) (w : World) : Prop := w.cell? ⟨lx, 0, none⟩ = some (.int .u64 e) ∧ w.cell? ⟨lx, 1, none⟩ = some u1 ∧ w.cell? ⟨lx, 2, none⟩ = some v1 ∧ w.cell? ⟨lx, 3, none⟩ = some (.int .u64 f) ∧ w.cell? ⟨lx, 4, none⟩ = some u2 ∧ w.cell? ⟨lx, 5, none⟩ = some v2 ∧ BoxS W0 gx P Q G H ra rn rc w
theorem LBS.same {W0 w w' : World} {gx lx : Nat} {P Q G H : Int} {ra : Option Addr} {rn rc : Nat} {e : Int} {u1 v1 : Value} {f : Int} {u2 v2 : Value} (h : LBS W0 gx lx P Q G H ra rn rc e u1 v1 f u2 v2 w) (hs : Same w w') : LBS W0 gx lx P Q G H ra rn rc e u1 v1 f u2 v2 w' := ⟨same_cell hs h.1, same_cell hs h.2.1, same_cell hs h.2.2.1, same_cell hs h.2.2.2.1, same_cell hs h.2.2.2.2.1, same_cell hs h.2.2.2.2.2.1, h.2.2.2.2.2.2.same hs⟩
theorem LBS.base {W0 w : World} {gx lx : Nat} {P Q G H : Int} {ra : Option Addr} {rn rc : Nat} {e : Int} {u1 v1 : Value} {f : Int} {u2 v2 : Value} (h : LBS W0 gx lx P Q G H ra rn rc e u1 v1 f u2 v2 w) : Same W0 w := h.2.2.2.2.2.2.base
theorem LBS.fresh {W0 w : World} {gx lx : Nat} {P Q G H : Int} {ra : Option Addr} {rn rc : Nat} {e : Int} {u1 v1 : Value} {f : Int} {u2 v2 : Value} (h : LBS W0 gx lx P Q G H ra rn rc e u1 v1 f u2 v2 w) : LBS w gx lx P Q G H ra rn rc e u1 v1 f u2 v2 w := ⟨h.1, h.2.1, h.2.2.1, h.2.2.2.1, h.2.2.2.2.1, h.2.2.2.2.2.1, h.2.2.2.2.2.2.fresh⟩
theorem par_lb (w : World) (P Q G H : Int) (ra : Option Addr) (rn rc : Nat) (e : Int) (u1 v1 : Value) (f : Int) (u2 v2 : Value) : ∃ W gx lx, (w.alloc (.cells #[.int .u64 P, .int .u64 Q, .int .u64 G, .int .u64 H, .slice ra rn rc] 25)).alloc (.cells #[.int .u64 e, u1, v1, .int .u64 f, u2, v2] 45) = W ∧ w.heap.size = gx ∧ gx + 1 = lx ∧ LBS w gx lx P Q G H ra rn rc e u1 v1 f u2 v2 W := by
  obtain ⟨W1, gx, e1, e2, hS, b0, b1, b2, b3, b4⟩ := par_box w P Q G H (.slice ra rn rc)
  have hz : W1.heap.size = gx + 1 := by rw [← e1, ← e2]; simp
  have hS1 : Same W1 (W1.alloc (.cells #[.int .u64 e, u1, v1, .int .u64 f, u2, v2] 45)) := (Same.refl W1).alloc _
  refine ⟨_, gx, gx + 1, by rw [e1], e2, rfl, ?_, ?_, ?_, ?_, ?_, ?_, BoxS.same ⟨b0, b1, b2, b3, b4, hS⟩ hS1⟩ <;> rw [← hz] <;> simp [World.cell?_alloc_new]
abbrev FbS (W0 : World) (gx cx lx b1 o1 : Nat) (P Q G H : Int) (ra : Option Addr) (rn rc : Nat) (u v : Value) (e : Int) (u1 v1 : Value) (f : Int) (u2 v2 : Value) (y : Int) (w : World) : Prop := w.cell? ⟨b1, o1, none⟩ = some (.int .u64 y) ∧ LXS W0 gx cx lx P Q G H ra rn rc u v e u1 v1 f u2 v2 w
theorem FbS.same {W0 w w' : World} {gx cx lx b1 o1 : Nat} {P Q G H : Int} {ra : Option Addr} {rn rc : Nat} {u v : Value} {e : Int} {u1 v1 : Value} {f : Int} {u2 v2 : Value} {y : Int} (h : FbS W0 gx cx lx b1 o1 P Q G H ra rn rc u v e u1 v1 f u2 v2 y w) (hs : Same w w') : FbS W0 gx cx lx b1 o1 P Q G H ra rn rc u v e u1 v1 f u2 v2 y w' := ⟨same_cell hs h.1, h.2.same hs⟩
theorem FbS.fresh {W0 w : World} {gx cx lx b1 o1 : Nat} {P Q G H : Int} {ra : Option Addr} {rn rc : Nat} {u v : Value} {e : Int} {u1 v1 : Value} {f : Int} {u2 v2 : Value} {y : Int} (h : FbS W0 gx cx lx b1 o1 P Q G H ra rn rc u v e u1 v1 f u2 v2 y w) : FbS w gx cx lx b1 o1 P Q G H ra rn rc u v e u1 v1 f u2 v2 y w := ⟨h.1, h.2.fresh⟩
set_option maxRecDepth 100000 in
set_option maxHeartbeats 6400000 in
theorem lawBoth (P Q G H : Int) (ra : Option Addr) (rn rc : Nat) (rs : List RowD) (ba xa ya ua va : Option Addr) (bn bc xn xc yn yc un uc vn vc : Nat) (bs : List (List Int)) (e f : Int) (xs ys : List Int) (hP : U64 P) (hQ : U64 Q) (hG : U64 G) (hH : U64 H) (he : U64 e) (hf : U64 f) (hbn : bn * 24 ≤ 140737488355328) (w : World) (h : RowsAt w ra rn rs) (hb : MatAt w ba bn bs) (hx : IntsAt w xa xn xs) (hy : IntsAt w ya yn ys) :
    Calls Try.prog 5 #[.agg #[.int .u64 P, .int .u64 Q, .int .u64 G, .int .u64 H, .slice ra rn rc], .slice ba bn bc, .agg #[.int .u64 e, .slice xa xn xc, .slice ya yn yc, .int .u64 f, .slice ua un uc, .slice va vn vc]] w fun e w' => e = .returned (.bool true) ∧ Same w w' := by
  obtain ⟨W, gx, lx, eW, eg, el, hB⟩ := par_lb w P Q G H ra rn rc e (.slice xa xn xc) (.slice ya yn yc) f (.slice ua un uc) (.slice va vn vc)
  have EW := Lib.hid eW
  have EG := Lib.hid eg
  have EL := Lib.hid el
  have H1 := Lib.hid h
  have HM := Lib.hid hb
  have HX := Lib.hid hx
  have HY := Lib.hid hy
  have HLX := Lib.hid hx.len
  have HLY := Lib.hid hy.len
  have HSZ := Lib.hid (And.intro hx.small hy.small)
  have HU := Lib.hid (And.intro hP (And.intro hQ (And.intro hG hH)))
  have HE := Lib.hid (And.intro he hf)
  have HBN := Lib.hid hbn
  clear eW eg el h hb hx hy hP hQ hG hH he hf hbn
  go_enter Try.func5, Try.ntmps5
  go_upto_region 1 with fail
  rw [EW.out, EG.out, EL.out]
  go_wp2_with fail
  refine (awake6 _).mono ?_
  rintro e1 w1 ⟨rfl, hT⟩
  obtain ⟨wd, ewd⟩ : ∃ wd, w1.drew = wd := ⟨_, rfl⟩
  have hS6 : Same w1 wd := by rw [← ewd]; exact drew_same _
  have HB := Lib.hid (LBS.same hB (hT.trans hS6))
  have HBD := Lib.hid HB.out.fresh
  have HSD := Lib.hid HB.out.base
  have H1d := Lib.hid (H1.out.same HB.out.base)
  have EWD := Lib.hid ewd
  clear hB hT ewd hS6
  go_upto_region 3 with fail
  by_cases hg : GoodP P Q G H rs
  case neg =>
    have HGB := Lib.hid (goodB_no hg)
    clear hg
    refine wp_region_held_drew (S := fun w' => LBS wd gx lx P Q G H ra rn rc e (.slice xa xn xc) (.slice ya yn yc) f (.slice ua un uc) (.slice va vn vc) w') (by kernel_rfl) (by rw [EWD.out]; exact HBD.out) (fun hHeld => ?_)
    rw [EWD.out] at hHeld ⊢
    refine wpAnyH_take (i := 0) (v := ?_) rfl (by kernel_rfl) (by kernel_rfl) (by kernel_rfl) (fun _ _ _ h => h) (Or.inl ⟨by rfl, ?_⟩) (by assumption) ?_
    rotate_left
    · intro w hSw; (try dsimp only at hSw); go_simp; try with_reducible rfl
    try simp only [Act.put, List.getElem_toArray, List.getElem_cons_succ, List.getElem_cons_zero, List.setIfInBounds_toArray, List.set_cons_zero, List.set_cons_succ]
    refine wpAnyH_ready (rs := [1]) (by kernel_rfl) (by simp) ?_
    refine AllReadyH.cons rfl (fun K hK => ?_) AllReadyH.nil
    go_simp
    refine (group5_any P Q G H ra rn rc rs HU.out.1 HU.out.2.1 HU.out.2.2.1 HU.out.2.2.2 _ (H1d.out.same (LBS.base (W0 := wd) (gx := gx) (lx := lx) (P := P) (Q := Q) (G := G) (H := H) (ra := ra) (rn := rn) (rc := rc) (e := e) (u1 := .slice xa xn xc) (v1 := .slice ya yn yc) (f := f) (u2 := .slice ua un uc) (v2 := .slice va vn vc) (by with_reducible assumption)))).mono ?_
    rintro e1 y1 ⟨rfl, hy1⟩
    rw [HGB.out]
    go_wp2_with fail
    refine hK.out _ _ ?_ (fun hHeld => ?_)
    · exact LBS.same (by with_reducible assumption) (by with_reducible assumption)
    clear hK K
    try simp only [Act.put, List.getElem_toArray, List.getElem_cons_succ, List.getElem_cons_zero, List.setIfInBounds_toArray, List.set_cons_zero, List.set_cons_succ]
    refine wpAnyH_take (i := 2) (v := ?_) rfl (by kernel_rfl) (by kernel_rfl) (by kernel_rfl) (fun _ _ _ h => h) (Or.inl ⟨by rfl, ?_⟩) (by assumption) ?_
    rotate_left
    · intro w hSw; (try dsimp only at hSw); go_simp; try with_reducible rfl
    try simp only [Act.put, List.getElem_toArray, List.getElem_cons_succ, List.getElem_cons_zero, List.setIfInBounds_toArray, List.set_cons_zero, List.set_cons_succ]
    refine wpAnyH_take (i := 3) (v := ?_) rfl (by kernel_rfl) (by kernel_rfl) (by kernel_rfl) (fun _ _ _ h => h) (Or.inl ⟨by rfl, ?_⟩) (by assumption) ?_
    rotate_left
    · intro w hSw; (try dsimp only at hSw); go_simp; try with_reducible rfl
    try simp only [Act.put, List.getElem_toArray, List.getElem_cons_succ, List.getElem_cons_zero, List.setIfInBounds_toArray, List.set_cons_zero, List.set_cons_succ]
    refine wpAnyH_take (i := 4) (v := undef) rfl (by kernel_rfl) (by kernel_rfl) (by kernel_rfl) (fun _ _ _ h => h) (Or.inr ⟨by rfl, rfl⟩) (by assumption) ?_
    try simp only [Act.put, List.getElem_toArray, List.getElem_cons_succ, List.getElem_cons_zero, List.setIfInBounds_toArray, List.set_cons_zero, List.set_cons_succ]
    refine wpAnyH_take (i := 5) (v := undef) rfl (by kernel_rfl) (by kernel_rfl) (by kernel_rfl) (fun _ _ _ h => h) (Or.inr ⟨by rfl, rfl⟩) (by assumption) ?_
    try simp only [Act.put, List.getElem_toArray, List.getElem_cons_succ, List.getElem_cons_zero, List.setIfInBounds_toArray, List.set_cons_zero, List.set_cons_succ]
    refine wpAnyH_take (i := 6) (v := undef) rfl (by kernel_rfl) (by kernel_rfl) (by kernel_rfl) (fun _ _ _ h => h) (Or.inr ⟨by rfl, rfl⟩) (by assumption) ?_
    try simp only [Act.put, List.getElem_toArray, List.getElem_cons_succ, List.getElem_cons_zero, List.setIfInBounds_toArray, List.set_cons_zero, List.set_cons_succ]
    refine wpAnyH_take (i := 7) (v := undef) rfl (by kernel_rfl) (by kernel_rfl) (by kernel_rfl) (fun _ _ _ h => h) (Or.inr ⟨by rfl, rfl⟩) (by assumption) ?_
    try simp only [Act.put, List.getElem_toArray, List.getElem_cons_succ, List.getElem_cons_zero, List.setIfInBounds_toArray, List.set_cons_zero, List.set_cons_succ]
    refine wpAnyH_take (i := 8) (v := undef) rfl (by kernel_rfl) (by kernel_rfl) (by kernel_rfl) (fun _ _ _ h => h) (Or.inr ⟨by rfl, rfl⟩) (by assumption) ?_
    try simp only [Act.put, List.getElem_toArray, List.getElem_cons_succ, List.getElem_cons_zero, List.setIfInBounds_toArray, List.set_cons_zero, List.set_cons_succ]
    refine wpAnyH_take (i := 9) (v := undef) rfl (by kernel_rfl) (by kernel_rfl) (by kernel_rfl) (fun _ _ _ h => h) (Or.inr ⟨by rfl, rfl⟩) (by assumption) ?_
    try simp only [Act.put, List.getElem_toArray, List.getElem_cons_succ, List.getElem_cons_zero, List.setIfInBounds_toArray, List.set_cons_zero, List.set_cons_succ]
    refine wpAnyH_take (i := 10) (v := undef) rfl (by kernel_rfl) (by kernel_rfl) (by kernel_rfl) (fun _ _ _ h => h) (Or.inr ⟨by rfl, rfl⟩) (by assumption) ?_
    try simp only [Act.put, List.getElem_toArray, List.getElem_cons_succ, List.getElem_cons_zero, List.setIfInBounds_toArray, List.set_cons_zero, List.set_cons_succ]
    refine wpAnyH_take (i := 11) (v := undef) rfl (by kernel_rfl) (by kernel_rfl) (by kernel_rfl) (fun _ _ _ h => h) (Or.inr ⟨by rfl, rfl⟩) (by assumption) ?_
    try simp only [Act.put, List.getElem_toArray, List.getElem_cons_succ, List.getElem_cons_zero, List.setIfInBounds_toArray, List.set_cons_zero, List.set_cons_succ]
    refine wpAnyH_take (i := 12) (v := undef) rfl (by kernel_rfl) (by kernel_rfl) (by kernel_rfl) (fun _ _ _ h => h) (Or.inr ⟨by rfl, rfl⟩) (by assumption) ?_
    try simp only [Act.put, List.getElem_toArray, List.getElem_cons_succ, List.getElem_cons_zero, List.setIfInBounds_toArray, List.set_cons_zero, List.set_cons_succ]
    refine wpAnyH_take (i := 13) (v := undef) rfl (by kernel_rfl) (by kernel_rfl) (by kernel_rfl) (fun _ _ _ h => h) (Or.inr ⟨by rfl, rfl⟩) (by assumption) ?_
    try simp only [Act.put, List.getElem_toArray, List.getElem_cons_succ, List.getElem_cons_zero, List.setIfInBounds_toArray, List.set_cons_zero, List.set_cons_succ]
    refine wpAnyH_take (i := 14) (v := undef) rfl (by kernel_rfl) (by kernel_rfl) (by kernel_rfl) (fun _ _ _ h => h) (Or.inr ⟨by rfl, rfl⟩) (by assumption) ?_
    try simp only [Act.put, List.getElem_toArray, List.getElem_cons_succ, List.getElem_cons_zero, List.setIfInBounds_toArray, List.set_cons_zero, List.set_cons_succ]
    refine wpAnyH_take (i := 15) (v := undef) rfl (by kernel_rfl) (by kernel_rfl) (by kernel_rfl) (fun _ _ _ h => h) (Or.inr ⟨by rfl, rfl⟩) (by assumption) ?_
    try simp only [Act.put, List.getElem_toArray, List.getElem_cons_succ, List.getElem_cons_zero, List.setIfInBounds_toArray, List.set_cons_zero, List.set_cons_succ]
    refine wpAnyH_take (i := 16) (v := undef) rfl (by kernel_rfl) (by kernel_rfl) (by kernel_rfl) (fun _ _ _ h => h) (Or.inr ⟨by rfl, rfl⟩) (by assumption) ?_
    try simp only [Act.put, List.getElem_toArray, List.getElem_cons_succ, List.getElem_cons_zero, List.setIfInBounds_toArray, List.set_cons_zero, List.set_cons_succ]
    refine wpAnyH_take (i := 17) (v := ?_) rfl (by kernel_rfl) (by kernel_rfl) (by kernel_rfl) (fun _ _ _ h => h) (Or.inl ⟨by rfl, ?_⟩) (by assumption) ?_
    rotate_left
    · intro w hSw; (try dsimp only at hSw); go_simp; try with_reducible rfl
    try simp only [Act.put, List.getElem_toArray, List.getElem_cons_succ, List.getElem_cons_zero, List.setIfInBounds_toArray, List.set_cons_zero, List.set_cons_succ]
    refine wpAnyH_done (by kernel_rfl) ?_ _
    go_wp2_with fail
    go_ret
    exact ⟨rfl, HSD.out.trans hHeld.base⟩
  have HGB := Lib.hid (goodB_yes hg)
  have HGR := Lib.hid hg.2.grp
  have HRT := Lib.hid (proved_root (rows_fine H1.out) hg.2.2.2.2.2.1).2.2
  clear hg
  have hq0 : ¬ Q = 0 := by have := HGR.out.q5; omega
  obtain ⟨z1, ez1⟩ : ∃ z, e % Q = z := ⟨_, rfl⟩
  obtain ⟨z2, ez2⟩ : ∃ z, f % Q = z := ⟨_, rfl⟩
  have et1 : e.tmod Q = z1 := by rw [← ez1]; exact Int.tmod_eq_emod_of_nonneg HE.out.1.1
  have et2 : f.tmod Q = z2 := by rw [← ez2]; exact Int.tmod_eq_emod_of_nonneg HE.out.2.1
  have EZ := Lib.hid (And.intro ez1 ez2)
  clear ez1 ez2
  by_cases hz : z1 = z2
  · have dz : (z1 == z2) = true := by rw [hz]; simp
    clear hz
    refine wp_region_held_drew (S := fun w' => LBS wd gx lx P Q G H ra rn rc e (.slice xa xn xc) (.slice ya yn yc) f (.slice ua un uc) (.slice va vn vc) w') (by kernel_rfl) (by rw [EWD.out]; exact HBD.out) (fun hHeld => ?_)
    rw [EWD.out] at hHeld ⊢
    refine wpAnyH_take (i := 0) (v := ?_) rfl (by kernel_rfl) (by kernel_rfl) (by kernel_rfl) (fun _ _ _ h => h) (Or.inl ⟨by rfl, ?_⟩) (by assumption) ?_
    rotate_left
    · intro w hSw; (try dsimp only at hSw); go_simp; try with_reducible rfl
    try simp only [Act.put, List.getElem_toArray, List.getElem_cons_succ, List.getElem_cons_zero, List.setIfInBounds_toArray, List.set_cons_zero, List.set_cons_succ]
    refine wpAnyH_ready (rs := [1]) (by kernel_rfl) (by simp) ?_
    refine AllReadyH.cons rfl (fun K hK => ?_) AllReadyH.nil
    go_simp
    refine (group5_any P Q G H ra rn rc rs HU.out.1 HU.out.2.1 HU.out.2.2.1 HU.out.2.2.2 _ (H1d.out.same (LBS.base (W0 := wd) (gx := gx) (lx := lx) (P := P) (Q := Q) (G := G) (H := H) (ra := ra) (rn := rn) (rc := rc) (e := e) (u1 := .slice xa xn xc) (v1 := .slice ya yn yc) (f := f) (u2 := .slice ua un uc) (v2 := .slice va vn vc) (by with_reducible assumption)))).mono ?_
    rintro e1 y1 ⟨rfl, hy1⟩
    rw [HGB.out]
    go_wp2_with fail
    refine hK.out _ _ ?_ (fun hHeld => ?_)
    · exact LBS.same (by with_reducible assumption) (by with_reducible assumption)
    clear hK K
    try simp only [Act.put, List.getElem_toArray, List.getElem_cons_succ, List.getElem_cons_zero, List.setIfInBounds_toArray, List.set_cons_zero, List.set_cons_succ]
    refine wpAnyH_take (i := 2) (v := ?_) rfl (by kernel_rfl) (by kernel_rfl) (by kernel_rfl) (fun _ _ _ h => h) (Or.inl ⟨by rfl, ?_⟩) (by assumption) ?_
    rotate_left
    · intro w hSw; (try dsimp only at hSw); go_simp; try with_reducible rfl
    try simp only [Act.put, List.getElem_toArray, List.getElem_cons_succ, List.getElem_cons_zero, List.setIfInBounds_toArray, List.set_cons_zero, List.set_cons_succ]
    refine wpAnyH_take (i := 3) (v := ?_) rfl (by kernel_rfl) (by kernel_rfl) (by kernel_rfl) (fun _ _ _ h => h) (Or.inl ⟨by rfl, ?_⟩) (by assumption) ?_
    rotate_left
    · intro w hSw; (try dsimp only at hSw); go_simp; try with_reducible rfl
    try simp only [Act.put, List.getElem_toArray, List.getElem_cons_succ, List.getElem_cons_zero, List.setIfInBounds_toArray, List.set_cons_zero, List.set_cons_succ]
    refine wpAnyH_take (i := 4) (v := ?_) rfl (by kernel_rfl) (by kernel_rfl) (by kernel_rfl) (fun _ _ _ h => h) (Or.inl ⟨by rfl, ?_⟩) (by assumption) ?_
    rotate_left
    · intro w hSw; (try dsimp only at hSw); go_simp; try with_reducible rfl
    try simp only [Act.put, List.getElem_toArray, List.getElem_cons_succ, List.getElem_cons_zero, List.setIfInBounds_toArray, List.set_cons_zero, List.set_cons_succ]
    refine wpAnyH_take (i := 5) (v := ?_) rfl (by kernel_rfl) (by kernel_rfl) (by kernel_rfl) (fun _ _ _ h => h) (Or.inl ⟨by rfl, ?_⟩) (by assumption) ?_
    rotate_left
    · intro w hSw; (try dsimp only at hSw); go_simp; try with_reducible rfl
    try simp only [Act.put, List.getElem_toArray, List.getElem_cons_succ, List.getElem_cons_zero, List.setIfInBounds_toArray, List.set_cons_zero, List.set_cons_succ]
    refine wpAnyH_take (i := 6) (v := ?_) rfl (by kernel_rfl) (by kernel_rfl) (by kernel_rfl) (fun _ _ _ h => h) (Or.inl ⟨by rfl, ?_⟩) (by assumption) ?_
    rotate_left
    · intro w hSw; (try dsimp only at hSw); go_simp; try with_reducible rfl
    try simp only [Act.put, List.getElem_toArray, List.getElem_cons_succ, List.getElem_cons_zero, List.setIfInBounds_toArray, List.set_cons_zero, List.set_cons_succ]
    refine wpAnyH_take (i := 7) (v := ?_) rfl (by kernel_rfl) (by kernel_rfl) (by kernel_rfl) (fun _ _ _ h => h) (Or.inl ⟨by rfl, ?_⟩) (by assumption) ?_
    rotate_left
    · intro w hSw; (try dsimp only at hSw); go_simp; try with_reducible rfl
    try simp only [Act.put, List.getElem_toArray, List.getElem_cons_succ, List.getElem_cons_zero, List.setIfInBounds_toArray, List.set_cons_zero, List.set_cons_succ]
    refine wpAnyH_take (i := 8) (v := ?_) rfl (by kernel_rfl) (by kernel_rfl) (by kernel_rfl) (fun _ _ _ h => h) (Or.inl ⟨by rfl, ?_⟩) (by assumption) ?_
    rotate_left
    · intro w hSw; (try dsimp only at hSw); go_simp; try with_reducible rfl
    try simp only [Act.put, List.getElem_toArray, List.getElem_cons_succ, List.getElem_cons_zero, List.setIfInBounds_toArray, List.set_cons_zero, List.set_cons_succ]
    refine wpAnyH_take (i := 9) (v := ?_) rfl (by kernel_rfl) (by kernel_rfl) (by kernel_rfl) (fun _ _ _ h => h) (Or.inl ⟨by rfl, ?_⟩) (by assumption) ?_
    rotate_left
    · intro w hSw; (try dsimp only at hSw); go_simp; try with_reducible rfl
    try simp only [Act.put, List.getElem_toArray, List.getElem_cons_succ, List.getElem_cons_zero, List.setIfInBounds_toArray, List.set_cons_zero, List.set_cons_succ]
    refine wpAnyH_take (i := 10) (v := ?_) rfl (by kernel_rfl) (by kernel_rfl) (by kernel_rfl) (fun _ _ _ h => h) (Or.inl ⟨by rfl, ?_⟩) (by assumption) ?_
    rotate_left
    · intro w hSw; (try dsimp only at hSw); go_simp; try with_reducible rfl
    try simp only [Act.put, List.getElem_toArray, List.getElem_cons_succ, List.getElem_cons_zero, List.setIfInBounds_toArray, List.set_cons_zero, List.set_cons_succ]
    refine wpAnyH_take (i := 11) (v := ?_) rfl (by kernel_rfl) (by kernel_rfl) (by kernel_rfl) (fun _ _ _ h => h) (Or.inl ⟨by rfl, ?_⟩) (by assumption) ?_
    rotate_left
    · intro w hSw; (try dsimp only at hSw); go_simp; try with_reducible rfl
    try simp only [Act.put, List.getElem_toArray, List.getElem_cons_succ, List.getElem_cons_zero, List.setIfInBounds_toArray, List.set_cons_zero, List.set_cons_succ]
    refine wpAnyH_take (i := 12) (v := ?_) rfl (by kernel_rfl) (by kernel_rfl) (by kernel_rfl) (fun _ _ _ h => h) (Or.inl ⟨by rfl, ?_⟩) (by assumption) ?_
    rotate_left
    · intro w hSw; (try dsimp only at hSw); go_simp; try with_reducible rfl
    try simp only [Act.put, List.getElem_toArray, List.getElem_cons_succ, List.getElem_cons_zero, List.setIfInBounds_toArray, List.set_cons_zero, List.set_cons_succ]
    refine wpAnyH_take (i := 13) (v := ?_) rfl (by kernel_rfl) (by kernel_rfl) (by kernel_rfl) (fun _ _ _ h => h) (Or.inl ⟨by rfl, ?_⟩) (by assumption) ?_
    rotate_left
    · intro w hSw; (try dsimp only at hSw); go_simp; try with_reducible rfl
    try simp only [Act.put, List.getElem_toArray, List.getElem_cons_succ, List.getElem_cons_zero, List.setIfInBounds_toArray, List.set_cons_zero, List.set_cons_succ]
    refine wpAnyH_take (i := 14) (v := ?_) rfl (by kernel_rfl) (by kernel_rfl) (by kernel_rfl) (fun _ _ _ h => h) (Or.inl ⟨by rfl, ?_⟩) (by assumption) ?_
    rotate_left
    · intro w hSw; (try dsimp only at hSw); go_simp; try with_reducible rfl
    try simp only [Act.put, List.getElem_toArray, List.getElem_cons_succ, List.getElem_cons_zero, List.setIfInBounds_toArray, List.set_cons_zero, List.set_cons_succ]
    refine wpAnyH_take (i := 15) (v := ?_) rfl (by kernel_rfl) (by kernel_rfl) (by kernel_rfl) (fun _ _ _ h => h) (Or.inl ⟨by rfl, ?_⟩) (by assumption) ?_
    rotate_left
    · intro w hSw; (try dsimp only at hSw); go_simp; try with_reducible rfl
    try simp only [Act.put, List.getElem_toArray, List.getElem_cons_succ, List.getElem_cons_zero, List.setIfInBounds_toArray, List.set_cons_zero, List.set_cons_succ]
    refine wpAnyH_take (i := 16) (v := ?_) rfl (by kernel_rfl) (by kernel_rfl) (by kernel_rfl) (fun _ _ _ h => h) (Or.inl ⟨by rfl, ?_⟩) (by assumption) ?_
    rotate_left
    · intro w hSw; (try dsimp only at hSw); go_simp; try with_reducible rfl
    try simp only [Act.put, List.getElem_toArray, List.getElem_cons_succ, List.getElem_cons_zero, List.setIfInBounds_toArray, List.set_cons_zero, List.set_cons_succ]
    refine wpAnyH_take (i := 17) (v := ?_) rfl (by kernel_rfl) (by kernel_rfl) (by kernel_rfl) (fun _ _ _ h => h) (Or.inl ⟨by rfl, ?_⟩) (by assumption) ?_
    rotate_left
    · intro w hSw; (try dsimp only at hSw); go_simp; try with_reducible rfl
    try simp only [Act.put, List.getElem_toArray, List.getElem_cons_succ, List.getElem_cons_zero, List.setIfInBounds_toArray, List.set_cons_zero, List.set_cons_succ]
    refine wpAnyH_done (by kernel_rfl) ?_ _
    go_wp2_with fail
    go_ret
    exact ⟨rfl, HSD.out.trans hHeld.base⟩
  have dz : (z1 == z2) = false := by simp; exact hz
  have HNE := Lib.hid (mod_ne HE.out.1.1 HE.out.2.1 HU.out.2.1.1 (by rw [EZ.out.1, EZ.out.2]; exact hz))
  clear hz
  refine wp_region_held_drew (S := fun w' => LBS wd gx lx P Q G H ra rn rc e (.slice xa xn xc) (.slice ya yn yc) f (.slice ua un uc) (.slice va vn vc) w') (by kernel_rfl) (by rw [EWD.out]; exact HBD.out) (fun hHeld => ?_)
  rw [EWD.out] at hHeld ⊢
  refine wpAnyH_take (i := 0) (v := ?_) rfl (by kernel_rfl) (by kernel_rfl) (by kernel_rfl) (fun _ _ _ h => h) (Or.inl ⟨by rfl, ?_⟩) (by assumption) ?_
  rotate_left
  · intro w hSw; (try dsimp only at hSw); go_simp; try with_reducible rfl
  try simp only [Act.put, List.getElem_toArray, List.getElem_cons_succ, List.getElem_cons_zero, List.setIfInBounds_toArray, List.set_cons_zero, List.set_cons_succ]
  refine wpAnyH_ready (rs := [1]) (by kernel_rfl) (by simp) ?_
  refine AllReadyH.cons rfl (fun K hK => ?_) AllReadyH.nil
  go_simp
  refine (group5_any P Q G H ra rn rc rs HU.out.1 HU.out.2.1 HU.out.2.2.1 HU.out.2.2.2 _ (H1d.out.same (LBS.base (W0 := wd) (gx := gx) (lx := lx) (P := P) (Q := Q) (G := G) (H := H) (ra := ra) (rn := rn) (rc := rc) (e := e) (u1 := .slice xa xn xc) (v1 := .slice ya yn yc) (f := f) (u2 := .slice ua un uc) (v2 := .slice va vn vc) (by with_reducible assumption)))).mono ?_
  rintro e1 y1 ⟨rfl, hy1⟩
  rw [HGB.out]
  go_wp2_with fail
  refine hK.out _ _ ?_ (fun hHeld => ?_)
  · exact LBS.same (by with_reducible assumption) (by with_reducible assumption)
  clear hK K
  try simp only [Act.put, List.getElem_toArray, List.getElem_cons_succ, List.getElem_cons_zero, List.setIfInBounds_toArray, List.set_cons_zero, List.set_cons_succ]
  refine wpAnyH_take (i := 2) (v := ?_) rfl (by kernel_rfl) (by kernel_rfl) (by kernel_rfl) (fun _ _ _ h => h) (Or.inl ⟨by rfl, ?_⟩) (by assumption) ?_
  rotate_left
  · intro w hSw; (try dsimp only at hSw); go_simp; try with_reducible rfl
  try simp only [Act.put, List.getElem_toArray, List.getElem_cons_succ, List.getElem_cons_zero, List.setIfInBounds_toArray, List.set_cons_zero, List.set_cons_succ]
  refine wpAnyH_take (i := 3) (v := ?_) rfl (by kernel_rfl) (by kernel_rfl) (by kernel_rfl) (fun _ _ _ h => h) (Or.inl ⟨by rfl, ?_⟩) (by assumption) ?_
  rotate_left
  · intro w hSw; (try dsimp only at hSw); go_simp; try with_reducible rfl
  try simp only [Act.put, List.getElem_toArray, List.getElem_cons_succ, List.getElem_cons_zero, List.setIfInBounds_toArray, List.set_cons_zero, List.set_cons_succ]
  refine wpAnyH_take (i := 4) (v := ?_) rfl (by kernel_rfl) (by kernel_rfl) (by kernel_rfl) (fun _ _ _ h => h) (Or.inl ⟨by rfl, ?_⟩) (by assumption) ?_
  rotate_left
  · intro w hSw; (try dsimp only at hSw); go_simp; try with_reducible rfl
  try simp only [Act.put, List.getElem_toArray, List.getElem_cons_succ, List.getElem_cons_zero, List.setIfInBounds_toArray, List.set_cons_zero, List.set_cons_succ]
  refine wpAnyH_take (i := 5) (v := ?_) rfl (by kernel_rfl) (by kernel_rfl) (by kernel_rfl) (fun _ _ _ h => h) (Or.inl ⟨by rfl, ?_⟩) (by assumption) ?_
  rotate_left
  · intro w hSw; (try dsimp only at hSw); go_simp; try with_reducible rfl
  try simp only [Act.put, List.getElem_toArray, List.getElem_cons_succ, List.getElem_cons_zero, List.setIfInBounds_toArray, List.set_cons_zero, List.set_cons_succ]
  refine wpAnyH_take (i := 6) (v := ?_) rfl (by kernel_rfl) (by kernel_rfl) (by kernel_rfl) (fun _ _ _ h => h) (Or.inl ⟨by rfl, ?_⟩) (by assumption) ?_
  rotate_left
  · intro w hSw; (try dsimp only at hSw); go_simp; try with_reducible rfl
  try simp only [Act.put, List.getElem_toArray, List.getElem_cons_succ, List.getElem_cons_zero, List.setIfInBounds_toArray, List.set_cons_zero, List.set_cons_succ]
  refine wpAnyH_take (i := 7) (v := ?_) rfl (by kernel_rfl) (by kernel_rfl) (by kernel_rfl) (fun _ _ _ h => h) (Or.inl ⟨by rfl, ?_⟩) (by assumption) ?_
  rotate_left
  · intro w hSw; (try dsimp only at hSw); go_simp; try with_reducible rfl
  try simp only [Act.put, List.getElem_toArray, List.getElem_cons_succ, List.getElem_cons_zero, List.setIfInBounds_toArray, List.set_cons_zero, List.set_cons_succ]
  refine wpAnyH_take (i := 8) (v := ?_) rfl (by kernel_rfl) (by kernel_rfl) (by kernel_rfl) (fun _ _ _ h => h) (Or.inl ⟨by rfl, ?_⟩) (by assumption) ?_
  rotate_left
  · intro w hSw; (try dsimp only at hSw); go_simp; try with_reducible rfl
  try simp only [Act.put, List.getElem_toArray, List.getElem_cons_succ, List.getElem_cons_zero, List.setIfInBounds_toArray, List.set_cons_zero, List.set_cons_succ]
  refine wpAnyH_take (i := 9) (v := ?_) rfl (by kernel_rfl) (by kernel_rfl) (by kernel_rfl) (fun _ _ _ h => h) (Or.inl ⟨by rfl, ?_⟩) (by assumption) ?_
  rotate_left
  · intro w hSw; (try dsimp only at hSw); go_simp; try with_reducible rfl
  try simp only [Act.put, List.getElem_toArray, List.getElem_cons_succ, List.getElem_cons_zero, List.setIfInBounds_toArray, List.set_cons_zero, List.set_cons_succ]
  refine wpAnyH_take (i := 10) (v := ?_) rfl (by kernel_rfl) (by kernel_rfl) (by kernel_rfl) (fun _ _ _ h => h) (Or.inl ⟨by rfl, ?_⟩) (by assumption) ?_
  rotate_left
  · intro w hSw; (try dsimp only at hSw); go_simp; try with_reducible rfl
  try simp only [Act.put, List.getElem_toArray, List.getElem_cons_succ, List.getElem_cons_zero, List.setIfInBounds_toArray, List.set_cons_zero, List.set_cons_succ]
  refine wpAnyH_take (i := 11) (v := ?_) rfl (by kernel_rfl) (by kernel_rfl) (by kernel_rfl) (fun _ _ _ h => h) (Or.inl ⟨by rfl, ?_⟩) (by assumption) ?_
  rotate_left
  · intro w hSw; (try dsimp only at hSw); go_simp; try with_reducible rfl
  try simp only [Act.put, List.getElem_toArray, List.getElem_cons_succ, List.getElem_cons_zero, List.setIfInBounds_toArray, List.set_cons_zero, List.set_cons_succ]
  refine wpAnyH_take (i := 12) (v := ?_) rfl (by kernel_rfl) (by kernel_rfl) (by kernel_rfl) (fun _ _ _ h => h) (Or.inl ⟨by rfl, ?_⟩) (by assumption) ?_
  rotate_left
  · intro w hSw; (try dsimp only at hSw); go_simp; try with_reducible rfl
  try simp only [Act.put, List.getElem_toArray, List.getElem_cons_succ, List.getElem_cons_zero, List.setIfInBounds_toArray, List.set_cons_zero, List.set_cons_succ]
  refine wpAnyH_take (i := 13) (v := ?_) rfl (by kernel_rfl) (by kernel_rfl) (by kernel_rfl) (fun _ _ _ h => h) (Or.inl ⟨by rfl, ?_⟩) (by assumption) ?_
  rotate_left
  · intro w hSw; (try dsimp only at hSw); go_simp; try with_reducible rfl
  try simp only [Act.put, List.getElem_toArray, List.getElem_cons_succ, List.getElem_cons_zero, List.setIfInBounds_toArray, List.set_cons_zero, List.set_cons_succ]
  refine wpAnyH_take (i := 14) (v := ?_) rfl (by kernel_rfl) (by kernel_rfl) (by kernel_rfl) (fun _ _ _ h => h) (Or.inl ⟨by rfl, ?_⟩) (by assumption) ?_
  rotate_left
  · intro w hSw; (try dsimp only at hSw); go_simp; try with_reducible rfl
  try simp only [Act.put, List.getElem_toArray, List.getElem_cons_succ, List.getElem_cons_zero, List.setIfInBounds_toArray, List.set_cons_zero, List.set_cons_succ]
  refine wpAnyH_take (i := 15) (v := ?_) rfl (by kernel_rfl) (by kernel_rfl) (by kernel_rfl) (fun _ _ _ h => h) (Or.inl ⟨by rfl, ?_⟩) (by assumption) ?_
  rotate_left
  · intro w hSw; (try dsimp only at hSw); go_simp; try with_reducible rfl
  try simp only [Act.put, List.getElem_toArray, List.getElem_cons_succ, List.getElem_cons_zero, List.setIfInBounds_toArray, List.set_cons_zero, List.set_cons_succ]
  refine wpAnyH_take (i := 16) (v := ?_) rfl (by kernel_rfl) (by kernel_rfl) (by kernel_rfl) (fun _ _ _ h => h) (Or.inl ⟨by rfl, ?_⟩) (by assumption) ?_
  rotate_left
  · intro w hSw; (try dsimp only at hSw); go_simp; try with_reducible rfl
  try simp only [Act.put, List.getElem_toArray, List.getElem_cons_succ, List.getElem_cons_zero, List.setIfInBounds_toArray, List.set_cons_zero, List.set_cons_succ]
  refine wpAnyH_take (i := 17) (v := ?_) rfl (by kernel_rfl) (by kernel_rfl) (by kernel_rfl) (fun _ _ _ h => h) (Or.inl ⟨by rfl, ?_⟩) (by assumption) ?_
  rotate_left
  · intro w hSw; (try dsimp only at hSw); go_simp; try with_reducible rfl
  try simp only [Act.put, List.getElem_toArray, List.getElem_cons_succ, List.getElem_cons_zero, List.setIfInBounds_toArray, List.set_cons_zero, List.set_cons_succ]
  refine wpAnyH_done (by kernel_rfl) ?_ _
  have HB2 := Lib.hid (LBS.same HB.out hHeld.base)
  clear hHeld dz et1 et2 hq0
  obtain ⟨l0, l1, l2, l3, l4, l5, b0, b1, b2, b3, b4, hS⟩ := HB2.out
  go_wp2_with fail
  refine (claim_any P Q G H ra rn rc ba xa bn bc xn xc bs xs HU.out.1 HU.out.2.1 HBN.out _ (HM.out.same hS) (HX.out.same hS)).mono ?_
  rintro e1 w3 ⟨ta, tn, tc, rfl, hti, hT⟩
  obtain ⟨cb, ecb⟩ : ∃ cb, claimB P Q bs xs = cb := ⟨_, rfl⟩
  have HCB := Lib.hid ecb
  have HTI := Lib.hid hti
  rw [ecb]
  have HB3 := Lib.hid (LBS.same HB2.out hT)
  clear ecb hti l0 l1 l2 l3 l4 l5 b0 b1 b2 b3 b4 hS hT
  obtain ⟨l0, l1, l2, l3, l4, l5, b0, b1, b2, b3, b4, hS⟩ := HB3.out
  go_upto_region 6 with fail
  obtain ⟨w4, ew4⟩ : ∃ w4, w3.alloc (.cells #[.slice ta tn tc, .slice ba bn bc] 29) = w4 := ⟨_, rfl⟩
  obtain ⟨cx, ecx⟩ : ∃ cx, w3.heap.size = cx := ⟨_, rfl⟩
  have hS4 : Same w3 w4 := by rw [← ew4]; exact (Same.refl w3).alloc _
  have hc0 : w4.cell? ⟨cx, 0, none⟩ = some (.slice ta tn tc) := by rw [← ew4, ← ecx]; simp [World.cell?_alloc_new]
  have hc1 : w4.cell? ⟨cx, 1, none⟩ = some (.slice ba bn bc) := by rw [← ew4, ← ecx]; simp [World.cell?_alloc_new]
  rw [ew4, ecx]
  have HCT := Lib.hid (show LXS w gx cx lx P Q G H ra rn rc (.slice ta tn tc) (.slice ba bn bc) e (.slice xa xn xc) (.slice ya yn yc) f (.slice ua un uc) (.slice va vn vc) w4 from ⟨same_cell hS4 l0, same_cell hS4 l1, same_cell hS4 l2, same_cell hS4 l3, same_cell hS4 l4, same_cell hS4 l5, hc0, hc1, BoxS.same HB3.out.2.2.2.2.2.2 hS4⟩)
  have HS4 := Lib.hid hS4
  clear ew4 ecx l0 l1 l2 l3 l4 l5 b0 b1 b2 b3 b4 hS hS4 hc0 hc1 HB HB2 HB3
  obtain ⟨l0, l1, l2, l3, l4, l5, c0, c1, b0, b1, b2, b3, b4, hS⟩ := HCT.out
  cases cb
  · go_wp2_with fail
    go_ret
    exact ⟨rfl, hS⟩
  have hsx := HSZ.out.1
  have hsy := HSZ.out.2
  by_cases hl : yn = xn
  case neg =>
    have d0 : ((yn : Int) != xn) = true := by simp; omega
    go_wp2_with fail
    go_ret
    exact ⟨rfl, hS⟩
  have d0 : ((yn : Int) != xn) = false := by simp; omega
  have HOK := Lib.hid (claim_parts HCB.out)
  have HTS := Lib.hid ((HTI.out HCB.out).same HS4.out)
  have HLE := Lib.hid (show xs.length = ys.length by rw [HLX.out, HLY.out, hl])
  have hx8 : xn ≤ 1000 := by have := HOK.out.2; rw [HLX.out] at this; omega
  have HHD := Lib.hid (both_holds HGR.out HOK.out.1 (fun i => (HX.out.bd i).1))
  have HEX := Lib.hid (both_ext HGR.out HRT.out.choose_spec HLE.out (fun i => (HX.out.bd i).1) HNE.out)
  clear hl hsx hsy
  go_wp2_with fail
  refine (ans_any P Q G H ra rn rc e xa ya xn xc yn yc xs ys HU.out.1 HU.out.2.1 HE.out.1 hx8 _ (HX.out.same hS) (HY.out.same hS)).mono ?_
  rintro e1 w5 ⟨aD, nD, cD, rfl, hi, hT⟩
  rw [lenB_yes HLE.out]
  have ID := Lib.hid hi
  replace HCT := Lib.hid (LXS.same HCT.out hT)
  replace HTS := Lib.hid (HTS.out.same hT)
  clear l0 l1 l2 l3 l4 l5 c0 c1 b0 b1 b2 b3 b4 hS hT hi d0
  obtain ⟨l0, l1, l2, l3, l4, l5, c0, c1, b0, b1, b2, b3, b4, hS⟩ := HCT.out
  go_wp2_with fail
  refine (ans_any P Q G H ra rn rc f xa ya xn xc yn yc xs ys HU.out.1 HU.out.2.1 HE.out.2 hx8 _ (HX.out.same hS) (HY.out.same hS)).mono ?_
  rintro e1 w6 ⟨aZ, nZ, cZ, rfl, hi, hT⟩
  rw [lenB_yes HLE.out]
  have IZ := Lib.hid hi
  replace ID := Lib.hid (ID.out.same hT)
  replace HCT := Lib.hid (LXS.same HCT.out hT)
  replace HTS := Lib.hid (HTS.out.same hT)
  clear l0 l1 l2 l3 l4 l5 c0 c1 b0 b1 b2 b3 b4 hS hT hi
  obtain ⟨l0, l1, l2, l3, l4, l5, c0, c1, b0, b1, b2, b3, b4, hS⟩ := HCT.out
  have hnd : nD ≤ 1000 := by rw [← ID.out.len, eachS_len HLE.out, HLX.out]; exact hx8
  go_wp2_with fail
  refine (extract_any P Q G H ra rn rc e f aD aZ nD cD nZ cZ _ _ HU.out.1 HU.out.2.1 HE.out.1 HE.out.2 hnd _ ID.out IZ.out).mono ?_
  rintro e1 w7 ⟨aE, nE, cE, rfl, hi, hT⟩
  rw [HEX.out.1]
  have IE := Lib.hid (show IntsAt w7 aE nE (modL Q xs) by have h2 := hi; rw [HEX.out.2] at h2; exact h2)
  replace HCT := Lib.hid (LXS.same HCT.out hT)
  replace HTS := Lib.hid (HTS.out.same hT)
  clear l0 l1 l2 l3 l4 l5 c0 c1 b0 b1 b2 b3 b4 hT hi ID IZ hnd
  obtain ⟨l0, l1, l2, l3, l4, l5, c0, c1, b0, b1, b2, b3, b4, hS⟩ := HCT.out
  have HNE2 := Lib.hid (show nE = xn by rw [← IE.out.len, modL_len, HLX.out])
  obtain rfl := HNE2.out
  have hne : ((nE : Int) != nE) = false := by simp
  go_wp2_with fail
  go_loopw [112] (fun s112 wr => ∃ i : Nat, s112 = .int .i64 i ∧ i ≤ nE ∧ Hid (Same w7 wr)) (fun s112 _ => nE - (intOf s112).toNat)
  case atStart => exact ⟨0, rfl, by omega, Lib.hid (Same.refl _)⟩
  case round =>
    obtain ⟨i, rfl, hi, hD⟩ := hrel
    have HCR := Lib.hid (LXS.same HCT.out hD.out)
    clear l0 l1 l2 l3 l4 l5 c0 c1 b0 b1 b2 b3 b4 hS hne
    obtain ⟨l0, l1, l2, l3, l4, l5, c0, c1, b0, b1, b2, b3, b4, hS⟩ := HCR.out
    by_cases hlt : i < nE
    · obtain ⟨db, dq, hda, hdc⟩ := (IE.out.same hD.out).cells (by omega)
      obtain ⟨xb, xq, hxa, hxc⟩ := (HX.out.same hS).cells (by omega)
      subst hda hxa
      have hcd := hdc i hlt
      have hcx := hxc i hlt
      obtain ⟨x, ex⟩ : ∃ x, xs.getD i 0 = x := ⟨_, rfl⟩
      obtain ⟨d, ed⟩ : ∃ d, (modL Q xs).getD i 0 = d := ⟨_, rfl⟩
      have ed2 : x % Q = d := by rw [← ed, modL_at, ex]
      have et : x.tmod Q = d := by rw [← ed2]; exact Int.tmod_eq_emod_of_nonneg (by rw [← ex]; exact (HX.out.bd i).1)
      have hq0 : ¬ Q = 0 := by have := HGR.out.q5; omega
      have hdd : (d != d) = false := by simp
      rw [ed] at hcd
      rw [ex] at hcx
      have hi0 : (0 : Int) ≤ i := by omega
      have hi1 : (i : Int) < nE := by omega
      have HCF := Lib.hid (show FbS wr.drew gx cx lx xb (xq + i) P Q G H ra rn rc (.slice ta tn tc) (.slice ba bn bc) e (.slice (some ⟨xb, xq, none⟩) nE xc) (.slice ya yn yc) f (.slice ua un uc) (.slice va vn vc) x wr.drew from FbS.fresh (FbS.same (W0 := w) ⟨hcx, HCR.out⟩ (drew_same _)))
      clear hdc hxc ex ed hcx ed2
      go_upto_region 16 with fail
      clear l0 l1 l2 l3 l4 l5 c0 c1 b0 b1 b2 b3 b4 hS hcd
      refine wp_region_held_drew (S := fun w' => FbS wr.drew gx cx lx xb (xq + i) P Q G H ra rn rc (.slice ta tn tc) (.slice ba bn bc) e (.slice (some ⟨xb, xq, none⟩) nE xc) (.slice ya yn yc) f (.slice ua un uc) (.slice va vn vc) x w') (by kernel_rfl) HCF.out (fun hHeld => ?_)
      refine wpAnyH_take (i := 0) (v := ?_) rfl (by kernel_rfl) (by kernel_rfl) (by kernel_rfl) (fun _ _ _ h => h) (Or.inl ⟨by rfl, ?_⟩) (by assumption) ?_
      rotate_left
      · intro w hSw; (try dsimp only at hSw); go_simp; try with_reducible rfl
      try simp only [Act.put, List.getElem_toArray, List.getElem_cons_succ, List.getElem_cons_zero, List.setIfInBounds_toArray, List.set_cons_zero, List.set_cons_succ]
      refine wpAnyH_take (i := 1) (v := ?_) rfl (by kernel_rfl) (by kernel_rfl) (by kernel_rfl) (fun _ _ _ h => h) (Or.inl ⟨by rfl, ?_⟩) (by assumption) ?_
      rotate_left
      · intro w hSw; (try dsimp only at hSw); go_simp; try with_reducible rfl
      try simp only [Act.put, List.getElem_toArray, List.getElem_cons_succ, List.getElem_cons_zero, List.setIfInBounds_toArray, List.set_cons_zero, List.set_cons_succ]
      refine wpAnyH_take (i := 2) (v := ?_) rfl (by kernel_rfl) (by kernel_rfl) (by kernel_rfl) (fun _ _ _ h => h) (Or.inl ⟨by rfl, ?_⟩) (by assumption) ?_
      rotate_left
      · intro w hSw; (try dsimp only at hSw); go_simp; try with_reducible rfl
      try simp only [Act.put, List.getElem_toArray, List.getElem_cons_succ, List.getElem_cons_zero, List.setIfInBounds_toArray, List.set_cons_zero, List.set_cons_succ]
      refine wpAnyH_take (i := 3) (v := ?_) rfl (by kernel_rfl) (by kernel_rfl) (by kernel_rfl) (fun _ _ _ h => h) (Or.inl ⟨by rfl, ?_⟩) (by assumption) ?_
      rotate_left
      · intro w hSw; (try dsimp only at hSw); go_simp; try with_reducible rfl
      try simp only [Act.put, List.getElem_toArray, List.getElem_cons_succ, List.getElem_cons_zero, List.setIfInBounds_toArray, List.set_cons_zero, List.set_cons_succ]
      refine wpAnyH_take (i := 4) (v := ?_) rfl (by kernel_rfl) (by kernel_rfl) (by kernel_rfl) (fun _ _ _ h => h) (Or.inl ⟨by rfl, ?_⟩) (by assumption) ?_
      rotate_left
      · intro w hSw; (try dsimp only at hSw); go_simp; try with_reducible rfl
      try simp only [Act.put, List.getElem_toArray, List.getElem_cons_succ, List.getElem_cons_zero, List.setIfInBounds_toArray, List.set_cons_zero, List.set_cons_succ]
      refine wpAnyH_take (i := 5) (v := ?_) rfl (by kernel_rfl) (by kernel_rfl) (by kernel_rfl) (fun _ _ _ h => h) (Or.inl ⟨by rfl, ?_⟩) (by assumption) ?_
      rotate_left
      · intro w hSw; (try dsimp only at hSw); go_simp; try with_reducible rfl
      try simp only [Act.put, List.getElem_toArray, List.getElem_cons_succ, List.getElem_cons_zero, List.setIfInBounds_toArray, List.set_cons_zero, List.set_cons_succ]
      refine wpAnyH_take (i := 6) (v := ?_) rfl (by kernel_rfl) (by kernel_rfl) (by kernel_rfl) (fun _ _ _ h => h) (Or.inl ⟨by rfl, ?_⟩) (by assumption) ?_
      rotate_left
      · intro w hSw; (try dsimp only at hSw); go_simp; try with_reducible rfl
      try simp only [Act.put, List.getElem_toArray, List.getElem_cons_succ, List.getElem_cons_zero, List.setIfInBounds_toArray, List.set_cons_zero, List.set_cons_succ]
      refine wpAnyH_take (i := 7) (v := ?_) rfl (by kernel_rfl) (by kernel_rfl) (by kernel_rfl) (fun _ _ _ h => h) (Or.inl ⟨by rfl, ?_⟩) (by assumption) ?_
      rotate_left
      · intro w hSw; (try dsimp only at hSw); go_simp; try with_reducible rfl
      try simp only [Act.put, List.getElem_toArray, List.getElem_cons_succ, List.getElem_cons_zero, List.setIfInBounds_toArray, List.set_cons_zero, List.set_cons_succ]
      refine wpAnyH_take (i := 8) (v := ?_) rfl (by kernel_rfl) (by kernel_rfl) (by kernel_rfl) (fun _ _ _ h => h) (Or.inl ⟨by rfl, ?_⟩) (by assumption) ?_
      rotate_left
      · intro w hSw; (try dsimp only at hSw); go_simp; try with_reducible rfl
      try simp only [Act.put, List.getElem_toArray, List.getElem_cons_succ, List.getElem_cons_zero, List.setIfInBounds_toArray, List.set_cons_zero, List.set_cons_succ]
      refine wpAnyH_take (i := 9) (v := ?_) rfl (by kernel_rfl) (by kernel_rfl) (by kernel_rfl) (fun _ _ _ h => h) (Or.inl ⟨by rfl, ?_⟩) (by assumption) ?_
      rotate_left
      · intro w hSw; (try dsimp only at hSw); go_simp; try with_reducible rfl
      try simp only [Act.put, List.getElem_toArray, List.getElem_cons_succ, List.getElem_cons_zero, List.setIfInBounds_toArray, List.set_cons_zero, List.set_cons_succ]
      refine wpAnyH_take (i := 10) (v := ?_) rfl (by kernel_rfl) (by kernel_rfl) (by kernel_rfl) (fun _ _ _ h => h) (Or.inl ⟨by rfl, ?_⟩) (by assumption) ?_
      rotate_left
      · intro w hSw; (try dsimp only at hSw); go_simp; try with_reducible rfl
      try simp only [Act.put, List.getElem_toArray, List.getElem_cons_succ, List.getElem_cons_zero, List.setIfInBounds_toArray, List.set_cons_zero, List.set_cons_succ]
      refine wpAnyH_done (by kernel_rfl) ?_ _
      have hb2 := Lib.hid (hD.out.trans ((drew_same wr).trans hHeld.2.base))
      clear hHeld
      go_wp2_with fail
      go_roundw
      case rel => exact ⟨i + 1, by go_num, by omega, hb2⟩
      case measure => simp [intOf]; omega
    · obtain rfl : i = nE := by omega
      have HTR := Lib.hid (HTS.out.same hD.out)
      have IER := Lib.hid (IE.out.same hD.out)
      go_wp2_with fail
      refine (holds6_any P Q G H ra rn rc ta ba aE tn tc bn bc i cE _ bs _ HU.out.1 HU.out.2.1 HGR.out _ HTR.out (HM.out.same hS) IER.out).mono ?_
      rintro e1 w9 ⟨rfl, hT⟩
      rw [HHD.out]
      go_wp2_with fail
      go_ret
      exact ⟨rfl, hS.trans hT⟩
end Go.Proofs.Ytlnkpbaibnfhhaa
