/- The walk of GroupRight. -/
import Derived.Test.YtdinemhodnleeaaAwake4
import Derived.Test.YtdinemhodnleeaaRGrpRight
import Derived.Test.YtdinemhodnleeaaRGrpLay
import Derived.Test.YtdinemhodnleeaaBoxS
import Derived.Deep.RegionHeld3
import Derived.Deep.RegionWith
set_option linter.unusedVariables false
set_option linter.unusedSimpArgs false
namespace Go.Proofs.Ytdinemhodnleeaa
open Go.RowKit NT
set_option maxHeartbeats 800000 in
theorem lawRight (P Q G H : Int) (ra : Option Addr) (rn rc : Nat) (rs : List RowD) (x : Int) (hP : U64 P) (hQ : U64 Q) (hG : U64 G) (hH : U64 H) (hx : U64 x) (w : World) (h : RowsAt w ra rn rs) :
    Calls Try.prog 3 #[.agg #[.int .u64 P, .int .u64 Q, .int .u64 G, .int .u64 H, .slice ra rn rc], .int .u64 x] w fun e w' => e = .returned (.bool true) ∧ Same w w' := by
  obtain ⟨W, bx, eW, eb, hS, c0, c1, c2, c3, c4⟩ := par_box w P Q G H (.slice ra rn rc)
  have EW := Lib.hid eW
  have EB := Lib.hid eb
  clear eW eb
  have h1 := h.same hS
  clear h
  have HU := Lib.hid (And.intro hP (And.intro hQ (And.intro hG (And.intro hH hx))))
  clear hP hQ hG hH hx
  go_enter Try.func3, Try.ntmps3
  go_upto_region 1 with fail
  rw [EW.out, EB.out]
  go_wp2_with fail
  refine (awake4 _).mono ?_
  rintro e1 w1 ⟨rfl, hS1⟩
  have b0 := same_cell hS1 c0
  have b1 := same_cell hS1 c1
  have b2 := same_cell hS1 c2
  have b3 := same_cell hS1 c3
  have b4 := same_cell hS1 c4
  clear c0 c1 c2 c3 c4
  go_wp2_with fail
  refine (few_any P Q G H ra rn rc rs _ (h1.same hS1)).mono ?_
  rintro e1 w2 ⟨rfl, hS2⟩
  have hS3 := hS1.trans hS2
  replace b0 := same_cell hS2 b0
  replace b1 := same_cell hS2 b1
  replace b2 := same_cell hS2 b2
  replace b3 := same_cell hS2 b3
  replace b4 := same_cell hS2 b4
  by_cases hs : SmallP rs
  case neg =>
    rw [smallB_no hs]
    clear hs
    go_wp2_with fail
    go_ret
    exact ⟨rfl, hS.trans hS3⟩
  rw [smallB_yes hs]
  clear hs hS1 hS2
  go_wp2_with fail
  refine (right_any P Q G H ra rn rc rs HU.out.1 HU.out.2.1 HU.out.2.2.1 HU.out.2.2.2.1 _ (h1.same hS3)).mono ?_
  rintro e1 w3 ⟨rfl, hS4⟩
  have hS5 := hS3.trans hS4
  replace b0 := same_cell hS4 b0
  replace b1 := same_cell hS4 b1
  replace b2 := same_cell hS4 b2
  replace b3 := same_cell hS4 b3
  replace b4 := same_cell hS4 b4
  clear hS3 hS4
  obtain ⟨ok, hok⟩ : ∃ ok, grpB P Q G H rs = ok := ⟨_, rfl⟩
  have HOK := Lib.hid hok
  rw [hok]
  clear hok
  have hB0 : BoxS W bx P Q G H ra rn rc w3 := ⟨b0, b1, b2, b3, b4, hS5⟩
  have HB0 := Lib.hid (hB0.same (drew_same w3))
  have HB1 := Lib.hid hB0
  have H1 := Lib.hid h1
  obtain ⟨y, hy⟩ : ∃ y, inB P Q x = y := ⟨_, rfl⟩
  have HY := Lib.hid hy
  clear hy
  cases ok
  · go_wp2_with fail
    clear b0 b1 b2 b3 b4 hS5 hB0 h1
    refine wp_region_held_drew (S := fun w' => BoxS W bx P Q G H ra rn rc w') (by kernel_rfl) HB0.out (fun hHeld => ?_)
    refine wpAnyH_take (i := 0) (v := ?_) rfl (by kernel_rfl) (by kernel_rfl) (by kernel_rfl) (fun _ _ _ h => h) (Or.inl ⟨by rfl, ?_⟩) (by assumption) ?_
    rotate_left
    · intro w hSw; (try dsimp only at hSw); go_simp; try with_reducible rfl
    try simp only [Act.put, List.getElem_toArray, List.getElem_cons_succ, List.getElem_cons_zero, List.setIfInBounds_toArray, List.set_cons_zero, List.set_cons_succ]
    refine wpAnyH_take (i := 1) (v := ?_) rfl (by kernel_rfl) (by kernel_rfl) (by kernel_rfl) (fun _ _ _ h => h) (Or.inl ⟨by rfl, ?_⟩) (by assumption) ?_
    rotate_left
    · intro w hSw; (try dsimp only at hSw); go_simp; try with_reducible rfl
    try simp only [Act.put, List.getElem_toArray, List.getElem_cons_succ, List.getElem_cons_zero, List.setIfInBounds_toArray, List.set_cons_zero, List.set_cons_succ]
    refine wpAnyH_ready (rs := [2]) (by kernel_rfl) (by simp) ?_
    refine AllReadyH.cons rfl (fun K hK => ?_) AllReadyH.nil
    go_simp
    refine (rright_any P Q G H ra rn rc rs HU.out.1 HU.out.2.1 HU.out.2.2.1 HU.out.2.2.2.1 _ (H1.out.same (BoxS.base (bx := bx) (P := P) (Q := Q) (G := G) (H := H) (ra := ra) (rn := rn) (rc := rc) (by with_reducible assumption)))).mono ?_
    rintro e1 w1 ⟨rfl, hT1⟩
    rw [HOK.out]
    go_wp2_with fail
    refine hK.out _ _ ?_ (fun hHeld => ?_)
    · exact BoxS.same (by with_reducible assumption) (by with_reducible assumption)
    clear hK K
    refine wpAnyH_take (i := 3) (v := ?_) rfl (by kernel_rfl) (by kernel_rfl) (by kernel_rfl) (fun _ _ _ h => h) (Or.inl ⟨by rfl, ?_⟩) (by assumption) ?_
    rotate_left
    · intro w hSw; (try dsimp only at hSw); go_simp; try with_reducible rfl
    try simp only [Act.put, List.getElem_toArray, List.getElem_cons_succ, List.getElem_cons_zero, List.setIfInBounds_toArray, List.set_cons_zero, List.set_cons_succ]
    refine wpAnyH_take (i := 4) (v := ?_) rfl (by kernel_rfl) (by kernel_rfl) (by kernel_rfl) (fun _ _ _ h => h) (Or.inl ⟨by rfl, ?_⟩) (by assumption) ?_
    rotate_left
    · intro w hSw; (try dsimp only at hSw); go_simp; try with_reducible rfl
    try simp only [Act.put, List.getElem_toArray, List.getElem_cons_succ, List.getElem_cons_zero, List.setIfInBounds_toArray, List.set_cons_zero, List.set_cons_succ]
    refine wpAnyH_take (i := 5) (v := ?_) rfl (by kernel_rfl) (by kernel_rfl) (by kernel_rfl) (fun _ _ _ h => h) (Or.inl ⟨by rfl, ?_⟩) (by assumption) ?_
    rotate_left
    · intro w hSw; (try dsimp only at hSw); go_simp; try with_reducible rfl
    try simp only [Act.put, List.getElem_toArray, List.getElem_cons_succ, List.getElem_cons_zero, List.setIfInBounds_toArray, List.set_cons_zero, List.set_cons_succ]
    refine wpAnyH_take (i := 6) (v := ?_) rfl (by kernel_rfl) (by kernel_rfl) (by kernel_rfl) (fun _ _ _ h => h) (Or.inl ⟨by rfl, ?_⟩) (by assumption) ?_
    rotate_left
    · intro w hSw; (try dsimp only at hSw); go_simp; try with_reducible rfl
    try simp only [Act.put, List.getElem_toArray, List.getElem_cons_succ, List.getElem_cons_zero, List.setIfInBounds_toArray, List.set_cons_zero, List.set_cons_succ]
    refine wpAnyH_take (i := 7) (v := ?_) rfl (by kernel_rfl) (by kernel_rfl) (by kernel_rfl) (fun _ _ _ h => h) (Or.inl ⟨by rfl, ?_⟩) (by assumption) ?_
    rotate_left
    · intro w hSw; (try dsimp only at hSw); go_simp; try with_reducible rfl
    try simp only [Act.put, List.getElem_toArray, List.getElem_cons_succ, List.getElem_cons_zero, List.setIfInBounds_toArray, List.set_cons_zero, List.set_cons_succ]
    refine wpAnyH_take (i := 8) (v := undef) rfl (by kernel_rfl) (by kernel_rfl) (by kernel_rfl) (fun _ _ _ h => h) (Or.inr ⟨by rfl, rfl⟩) (by assumption) ?_
    try simp only [Act.put, List.getElem_toArray, List.getElem_cons_succ, List.getElem_cons_zero, List.setIfInBounds_toArray, List.set_cons_zero, List.set_cons_succ]
    refine wpAnyH_take (i := 9) (v := undef) rfl (by kernel_rfl) (by kernel_rfl) (by kernel_rfl) (fun _ _ _ h => h) (Or.inr ⟨by rfl, rfl⟩) (by assumption) ?_
    try simp only [Act.put, List.getElem_toArray, List.getElem_cons_succ, List.getElem_cons_zero, List.setIfInBounds_toArray, List.set_cons_zero, List.set_cons_succ]
    refine wpAnyH_take (i := 10) (v := undef) rfl (by kernel_rfl) (by kernel_rfl) (by kernel_rfl) (fun _ _ _ h => h) (Or.inr ⟨by rfl, rfl⟩) (by assumption) ?_
    try simp only [Act.put, List.getElem_toArray, List.getElem_cons_succ, List.getElem_cons_zero, List.setIfInBounds_toArray, List.set_cons_zero, List.set_cons_succ]
    refine wpAnyH_take (i := 11) (v := undef) rfl (by kernel_rfl) (by kernel_rfl) (by kernel_rfl) (fun _ _ _ h => h) (Or.inr ⟨by rfl, rfl⟩) (by assumption) ?_
    try simp only [Act.put, List.getElem_toArray, List.getElem_cons_succ, List.getElem_cons_zero, List.setIfInBounds_toArray, List.set_cons_zero, List.set_cons_succ]
    refine wpAnyH_take (i := 12) (v := undef) rfl (by kernel_rfl) (by kernel_rfl) (by kernel_rfl) (fun _ _ _ h => h) (Or.inr ⟨by rfl, rfl⟩) (by assumption) ?_
    try simp only [Act.put, List.getElem_toArray, List.getElem_cons_succ, List.getElem_cons_zero, List.setIfInBounds_toArray, List.set_cons_zero, List.set_cons_succ]
    refine wpAnyH_take (i := 13) (v := undef) rfl (by kernel_rfl) (by kernel_rfl) (by kernel_rfl) (fun _ _ _ h => h) (Or.inr ⟨by rfl, rfl⟩) (by assumption) ?_
    try simp only [Act.put, List.getElem_toArray, List.getElem_cons_succ, List.getElem_cons_zero, List.setIfInBounds_toArray, List.set_cons_zero, List.set_cons_succ]
    refine wpAnyH_take (i := 14) (v := undef) rfl (by kernel_rfl) (by kernel_rfl) (by kernel_rfl) (fun _ _ _ h => h) (Or.inr ⟨by rfl, rfl⟩) (by assumption) ?_
    try simp only [Act.put, List.getElem_toArray, List.getElem_cons_succ, List.getElem_cons_zero, List.setIfInBounds_toArray, List.set_cons_zero, List.set_cons_succ]
    refine wpAnyH_take (i := 15) (v := ?_) rfl (by kernel_rfl) (by kernel_rfl) (by kernel_rfl) (fun _ _ _ h => h) (Or.inl ⟨by rfl, ?_⟩) (by assumption) ?_
    rotate_left
    · intro w hSw; (try dsimp only at hSw); go_simp; try with_reducible rfl
    try simp only [Act.put, List.getElem_toArray, List.getElem_cons_succ, List.getElem_cons_zero, List.setIfInBounds_toArray, List.set_cons_zero, List.set_cons_succ]
    refine wpAnyH_take (i := 16) (v := ?_) rfl (by kernel_rfl) (by kernel_rfl) (by kernel_rfl) (fun _ _ _ h => h) (Or.inl ⟨by rfl, ?_⟩) (by assumption) ?_
    rotate_left
    · intro w hSw; (try dsimp only at hSw); go_simp; try with_reducible rfl
    try simp only [Act.put, List.getElem_toArray, List.getElem_cons_succ, List.getElem_cons_zero, List.setIfInBounds_toArray, List.set_cons_zero, List.set_cons_succ]
    refine wpAnyH_take (i := 17) (v := ?_) rfl (by kernel_rfl) (by kernel_rfl) (by kernel_rfl) (fun _ _ _ h => h) (Or.inl ⟨by rfl, ?_⟩) (by assumption) ?_
    rotate_left
    · intro w hSw; (try dsimp only at hSw); go_simp; try with_reducible rfl
    try simp only [Act.put, List.getElem_toArray, List.getElem_cons_succ, List.getElem_cons_zero, List.setIfInBounds_toArray, List.set_cons_zero, List.set_cons_succ]
    refine wpAnyH_done (by kernel_rfl) ?_ _
    go_wp2_with fail
    go_ret
    exact ⟨rfl, hS.trans (BoxS.base (bx := bx) (P := P) (Q := Q) (G := G) (H := H) (ra := ra) (rn := rn) (rc := rc) (by with_reducible assumption))⟩
  · go_wp2_with fail
    clear b0 b1 b2 b3 b4 hS5 hB0 h1
    go_region_held3 (fun w' => BoxS W bx P Q G H ra rn rc w')
      (first
        | exact HB0.out
        | (with_reducible refine BoxS.same (by assumption) ?_; with_reducible assumption)
        | assumption
        | go_keep)
      (first
        | (go_at_call 9; refine (rright_any P Q G H ra rn rc rs HU.out.1 HU.out.2.1 HU.out.2.2.1 HU.out.2.2.2.1 _ (H1.out.same (BoxS.base (bx := bx) (P := P) (Q := Q) (G := G) (H := H) (ra := ra) (rn := rn) (rc := rc) (by with_reducible assumption)))).mono ?_; rintro e1 w1 ⟨rfl, hT1⟩; rw [HOK.out])
        | (go_at_call 10; refine (in_any P Q G H ra rn rc x HU.out.1.1 HU.out.2.1.1 HU.out.2.1.2 HU.out.2.2.2.2.1 _).mono ?_; rintro e1 w5 ⟨rfl, hT2⟩; rw [HY.out])
        | (go_at_call 11; refine (rin_any P Q G H ra rn rc x HU.out.1.1 HU.out.2.1.1 HU.out.2.1.2 HU.out.2.2.2.2.1 _).mono ?_; rintro e1 w6 ⟨rfl, hT3⟩; rw [HY.out]))
    go_wp2_with fail
    go_ret
    exact ⟨rfl, hS.trans (BoxS.base (bx := bx) (P := P) (Q := Q) (G := G) (H := H) (ra := ra) (rn := rn) (rc := rc) (by with_reducible assumption))⟩
end Go.Proofs.Ytdinemhodnleeaa
