/- The document's Answer, Draws, Fake, Extract. -/
import Derived.Test.YtlnkpbaibnfhhaaLinFour
import Derived.Test.YtlnkpbaibnfhhaaLinRImg
import Derived.Deep.RegionHeld3
set_option linter.unusedVariables false
set_option linter.unusedSimpArgs false
namespace Go.Proofs.Ytlnkpbaibnfhhaa
open Go.RowKit NT
noncomputable def upS (f : Int → Int → Int) (xs ys : List Int) (k : Nat) : List Int := (List.range k).map (fun i => f (xs.getD i 0) (ys.getD i 0))
theorem upS_snoc {f : Int → Int → Int} {xs ys : List Int} {k : Nat} : upS f xs ys (k + 1) = upS f xs ys k ++ [f (xs.getD k 0) (ys.getD k 0)] := by unfold upS; rw [List.range_succ, List.map_append]; rfl
theorem upS_len {f : Int → Int → Int} {xs ys : List Int} {k : Nat} : (upS f xs ys k).length = k := by unfold upS; simp
theorem upS_each {f : Int → Int → Int} {xs ys : List Int} (h : xs.length = ys.length) : upS f xs ys xs.length = eachS f xs ys := by unfold upS eachS; rw [if_pos h]
theorem each_congr {f g : Int → Int → Int} {xs ys : List Int} (h : ∀ a b, f a b = g a b) : eachS f xs ys = eachS g xs ys := by rw [show f = g from funext fun a => funext fun b => h a b]
noncomputable def ransF (Q e x y : Int) : Int := addI y (mulI e x Q) Q
noncomputable def rextF (Q by_ x y : Int) : Int := mulI by_ (subI x y Q) Q
theorem addI_comm (a b m : Int) : addI a b m = addI b a m := by
  unfold addI; by_cases h : Modulus m.toNat
  · rw [addS_yes h, addS_yes h, Nat.add_comm]
  · rw [addS_no h, addS_no h]
theorem mulI_comm (a b m : Int) : mulI a b m = mulI b a m := by
  unfold mulI; by_cases h : Modulus m.toNat
  · rw [mulS_yes h, mulS_yes h, Nat.mul_comm]
  · rw [mulS_no h, mulS_no h]
theorem ransF_eq (Q e x y : Int) : ransF Q e x y = ansF Q e x y := addI_comm _ _ _
theorem rextF_eq (Q e x y : Int) : rextF Q e x y = extF Q e x y := mulI_comm _ _ _
theorem ransF_u (Q e x y : Int) : U64 (ransF Q e x y) := addI_u _ _ _
theorem rextF_u (Q e x y : Int) : U64 (rextF Q e x y) := mulI_u _ _ _
abbrev RA (W0 : World) (gx b1 o1 b2 o2 : Nat) (P Q G H : Int) (ra : Option Addr) (rn rc : Nat) (x y : Int) (w : World) : Prop := w.cell? ⟨b1, o1, none⟩ = some (.int .u64 x) ∧ w.cell? ⟨b2, o2, none⟩ = some (.int .u64 y) ∧ BoxS W0 gx P Q G H ra rn rc w
theorem RA.same {W0 w w' : World} {gx b1 o1 b2 o2 : Nat} {P Q G H : Int} {ra : Option Addr} {rn rc : Nat} {x y : Int} (h : RA W0 gx b1 o1 b2 o2 P Q G H ra rn rc x y w) (hs : Same w w') : RA W0 gx b1 o1 b2 o2 P Q G H ra rn rc x y w' := ⟨same_cell hs h.1, same_cell hs h.2.1, h.2.2.same hs⟩
theorem BoxS.fresh {W0 w : World} {gx : Nat} {P Q G H : Int} {ra : Option Addr} {rn rc : Nat} (h : BoxS W0 gx P Q G H ra rn rc w) : BoxS w gx P Q G H ra rn rc w := ⟨h.1, h.2.1, h.2.2.1, h.2.2.2.1, h.2.2.2.2.1, Same.refl _⟩
abbrev RF (W0 : World) (gx cx b1 o1 b2 o2 : Nat) (P Q G H : Int) (ra : Option Addr) (rn rc : Nat) (u v : Value) (x y : Int) (w : World) : Prop := w.cell? ⟨b1, o1, none⟩ = some (.int .u64 x) ∧ w.cell? ⟨b2, o2, none⟩ = some (.int .u64 y) ∧ ClS W0 gx cx P Q G H ra rn rc u v w
theorem RF.same {W0 w w' : World} {gx cx b1 o1 b2 o2 : Nat} {P Q G H : Int} {ra : Option Addr} {rn rc : Nat} {u v : Value} {x y : Int} (h : RF W0 gx cx b1 o1 b2 o2 P Q G H ra rn rc u v x y w) (hs : Same w w') : RF W0 gx cx b1 o1 b2 o2 P Q G H ra rn rc u v x y w' := ⟨same_cell hs h.1, same_cell hs h.2.1, h.2.2.same hs⟩
theorem ClS.fresh {W0 w : World} {gx cx : Nat} {P Q G H : Int} {ra : Option Addr} {rn rc : Nat} {u v : Value} (h : ClS W0 gx cx P Q G H ra rn rc u v w) : ClS w gx cx P Q G H ra rn rc u v w := ⟨h.1, h.2.1, h.2.2.fresh⟩
theorem RA.base' {W0 w : World} {gx b1 o1 b2 o2 : Nat} {P Q G H : Int} {ra : Option Addr} {rn rc : Nat} {x y : Int} (h : RA W0 gx b1 o1 b2 o2 P Q G H ra rn rc x y w) : Same W0 w := h.2.2.base
theorem RF.base' {W0 w : World} {gx cx b1 o1 b2 o2 : Nat} {P Q G H : Int} {ra : Option Addr} {rn rc : Nat} {u v : Value} {x y : Int} (h : RF W0 gx cx b1 o1 b2 o2 P Q G H ra rn rc u v x y w) : Same W0 w := h.2.2.base
set_option maxRecDepth 100000 in
set_option maxHeartbeats 1600000 in
theorem rans_any (P Q G H : Int) (ra : Option Addr) (rn rc : Nat) (e : Int) (xa ya : Option Addr) (xn xc yn yc : Nat) (xs ys : List Int) (hP : U64 P) (hQ : U64 Q) (he : U64 e) (hn : xn ≤ 1000) (w : World) (hx : IntsAt w xa xn xs) (hy : IntsAt w ya yn ys) :
    Calls Try.prog 24 #[.agg #[.int .u64 P, .int .u64 Q, .int .u64 G, .int .u64 H, .slice ra rn rc], .slice xa xn xc, .slice ya yn yc, .int .u64 e] w fun z w' => ImgRet w z w' (eachS (ransF Q e) xs ys) (lenB xs ys) := by
  obtain ⟨w1, gx, eW, eg, hS0, c0, c1, c2, c3, c4⟩ := par_box w P Q G H (.slice ra rn rc)
  have EW := Lib.hid eW
  have EG := Lib.hid eg
  have HU := Lib.hid (And.intro hP (And.intro hQ he))
  have HLX := Lib.hid hx.len
  have HLY := Lib.hid hy.len
  have hsy := hy.small
  have HX := Lib.hid (hx.same hS0)
  have HY := Lib.hid (hy.same hS0)
  have HS := Lib.hid hS0
  have HB1 := Lib.hid (show BoxS w1 gx P Q G H ra rn rc w1 from ⟨c0, c1, c2, c3, c4, Same.refl _⟩)
  clear eW eg hP hQ he hx hy hS0 c0 c1 c2 c3 c4
  by_cases hl : xn = yn
  case neg =>
    have d0 : ((xn : Int) != yn) = true := by simp; omega
    have hne : ¬ xs.length = ys.length := by rw [HLX.out, HLY.out]; exact hl
    have HV := Lib.hid (And.intro (lenB_no hne) (eachS_no (f := ransF Q e) hne))
    clear hl hne
    go_enter Try.func24, Try.ntmps24
    go_upto_region 1 with fail
    rw [EW.out, EG.out]
    go_wp2_with fail
    go_ret2
    exact ⟨none, 0, 0, by rw [HV.out.1]; rfl, by rw [HV.out.2]; exact ints_nil _, HS.out⟩
  have HYN := Lib.hid hl
  have d0 : ((xn : Int) != yn) = false := by simp; omega
  have HLE := Lib.hid (show xs.length = ys.length by rw [HLX.out, HLY.out]; exact hl)
  clear hl
  obtain ⟨i0, hi, hz0, hz1, hz2⟩ := info_parts info_u64
  go_enter Try.func24, Try.ntmps24
  go_upto_region 1 with fail
  rw [EW.out, EG.out]
  go_wp2_with fail
  go_loopw [10, 11] (fun s10 s11 wr => ∃ k : Nat, s11 = .int .i64 k ∧ k ≤ xn ∧ OwnI wr w1.heap.size s10 (upS (ransF Q e) xs ys k) ∧ Same w1 wr) (fun _ s11 _ => xn - (intOf s11).toNat)
  case atStart => exact ⟨0, rfl, by omega, OwnI.nil _ _, Same.refl _⟩
  case round =>
    obtain ⟨k, rfl, hk, hown, hD⟩ := hrel
    by_cases hlt : k < xn
    · obtain ⟨xb, xo, hxa, hxc⟩ := HX.out.cells (by omega)
      obtain ⟨yb, yo, hya, hyc⟩ := HY.out.cells (by have := HYN.out; omega)
      subst hxa hya
      have hc := hxc k hlt
      have hd := hyc k (by have := HYN.out; omega)
      obtain ⟨x, exx⟩ : ∃ x, xs.getD k 0 = x := ⟨_, rfl⟩
      obtain ⟨y, eyy⟩ : ∃ y, ys.getD k 0 = y := ⟨_, rfl⟩
      rw [exx] at hc
      rw [eyy] at hd
      have HXX := Lib.hid exx
      have HYY := Lib.hid eyy
      have HXU := Lib.hid (show U64 x ∧ U64 y from ⟨by rw [← exx]; exact HX.out.bd k, by rw [← eyy]; exact HY.out.bd k⟩)
      obtain ⟨nz, enz⟩ : ∃ nz, ransF Q e x y = nz := ⟨_, rfl⟩
      have HNZ := Lib.hid enz
      have HNU := Lib.hid (show U64 nz by rw [← enz]; exact ransF_u _ _ _ _)
      have HSW := Lib.hid (show RA w1 gx xb (xo + k) yb (yo + k) P Q G H ra rn rc x y w1 from ⟨hc, hd, HB1.out⟩)
      have hk0 : (0 : Int) ≤ k := by omega
      have hk1 : (k : Int) < xn := by omega
      have hk2 : (k : Int) < yn := by have := HYN.out; omega
      have HSW2 := Lib.hid (RA.same (RA.same HSW.out hD) (drew_same wr))
      replace hown := hown.same (drew_same wr)
      clear hxc hyc hc hd exx eyy enz
      go_upto_region 7 with fail
      clear hD
      refine wp_region_held_drew (S := fun w' => RA w1 gx xb (xo + k) yb (yo + k) P Q G H ra rn rc x y w') (by kernel_rfl) HSW2.out (fun hHeld => ?_)
      obtain ⟨Wd, eWd⟩ : ∃ Wd, wr.drew = Wd := ⟨_, rfl⟩
      rw [eWd] at hHeld hown ⊢
      clear eWd HSW2
      refine wpAnyH_take (i := 0) (v := ?_) rfl (by kernel_rfl) (by kernel_rfl) (by kernel_rfl) (fun _ _ _ h => h) (Or.inl ⟨by rfl, ?_⟩) (by assumption) ?_
      rotate_left
      · intro w hSw; (try dsimp only at hSw); go_simp; try with_reducible rfl
      try simp only [Act.put, List.getElem_toArray, List.getElem_cons_succ, List.getElem_cons_zero, List.setIfInBounds_toArray, List.set_cons_zero, List.set_cons_succ]
      refine wpAnyH_take (i := 1) (v := ?_) rfl (by kernel_rfl) (by kernel_rfl) (by kernel_rfl) (fun _ _ _ h => h) (Or.inl ⟨by rfl, ?_⟩) (by assumption) ?_
      rotate_left
      · intro w hSw; (try dsimp only at hSw); go_simp; try with_reducible rfl
      try simp only [Act.put, List.getElem_toArray, List.getElem_cons_succ, List.getElem_cons_zero, List.setIfInBounds_toArray, List.set_cons_zero, List.set_cons_succ]
      refine wpAnyH_take (i := 2) (v := ?_) rfl (by kernel_rfl) (by kernel_rfl) (by kernel_rfl) (fun _ _ _ h => h) (Or.inl ⟨by rfl, ?_⟩) (by assumption) ?_
      rotate_left
      · intro w hSw; (try dsimp only at hSw); go_simp; try with_reducible rfl
      try simp only [Act.put, List.getElem_toArray, List.getElem_cons_succ, List.getElem_cons_zero, List.setIfInBounds_toArray, List.set_cons_zero, List.set_cons_succ]
      refine wpAnyH_take (i := 3) (v := ?_) rfl (by kernel_rfl) (by kernel_rfl) (by kernel_rfl) (fun _ _ _ h => h) (Or.inl ⟨by rfl, ?_⟩) (by assumption) ?_
      rotate_left
      · intro w hSw; (try dsimp only at hSw); go_simp; try with_reducible rfl
      try simp only [Act.put, List.getElem_toArray, List.getElem_cons_succ, List.getElem_cons_zero, List.setIfInBounds_toArray, List.set_cons_zero, List.set_cons_succ]
      refine wpAnyH_take (i := 4) (v := ?_) rfl (by kernel_rfl) (by kernel_rfl) (by kernel_rfl) (fun _ _ _ h => h) (Or.inl ⟨by rfl, ?_⟩) (by assumption) ?_
      rotate_left
      · intro w hSw; (try dsimp only at hSw); go_simp; try with_reducible rfl
      try simp only [Act.put, List.getElem_toArray, List.getElem_cons_succ, List.getElem_cons_zero, List.setIfInBounds_toArray, List.set_cons_zero, List.set_cons_succ]
      refine wpAnyH_take (i := 5) (v := ?_) rfl (by kernel_rfl) (by kernel_rfl) (by kernel_rfl) (fun _ _ _ h => h) (Or.inl ⟨by rfl, ?_⟩) (by assumption) ?_
      rotate_left
      · intro w hSw; (try dsimp only at hSw); go_simp; try with_reducible rfl
      try simp only [Act.put, List.getElem_toArray, List.getElem_cons_succ, List.getElem_cons_zero, List.setIfInBounds_toArray, List.set_cons_zero, List.set_cons_succ]
      refine wpAnyH_take (i := 6) (v := ?_) rfl (by kernel_rfl) (by kernel_rfl) (by kernel_rfl) (fun _ _ _ h => h) (Or.inl ⟨by rfl, ?_⟩) (by assumption) ?_
      rotate_left
      · intro w hSw; (try dsimp only at hSw); go_simp; try with_reducible rfl
      try simp only [Act.put, List.getElem_toArray, List.getElem_cons_succ, List.getElem_cons_zero, List.setIfInBounds_toArray, List.set_cons_zero, List.set_cons_succ]
      refine wpAnyH_take (i := 7) (v := ?_) rfl (by kernel_rfl) (by kernel_rfl) (by kernel_rfl) (fun _ _ _ h => h) (Or.inl ⟨by rfl, ?_⟩) (by assumption) ?_
      rotate_left
      · intro w hSw; (try dsimp only at hSw); go_simp; try with_reducible rfl
      try simp only [Act.put, List.getElem_toArray, List.getElem_cons_succ, List.getElem_cons_zero, List.setIfInBounds_toArray, List.set_cons_zero, List.set_cons_succ]
      refine wpAnyH_take (i := 8) (v := ?_) rfl (by kernel_rfl) (by kernel_rfl) (by kernel_rfl) (fun _ _ _ h => h) (Or.inl ⟨by rfl, ?_⟩) (by assumption) ?_
      rotate_left
      · intro w hSw; (try dsimp only at hSw); go_simp; try with_reducible rfl
      try simp only [Act.put, List.getElem_toArray, List.getElem_cons_succ, List.getElem_cons_zero, List.setIfInBounds_toArray, List.set_cons_zero, List.set_cons_succ]
      refine wpAnyH_take (i := 9) (v := ?_) rfl (by kernel_rfl) (by kernel_rfl) (by kernel_rfl) (fun _ _ _ h => h) (Or.inl ⟨by rfl, ?_⟩) (by assumption) ?_
      rotate_left
      · intro w hSw; (try dsimp only at hSw); go_simp; try with_reducible rfl
      try simp only [Act.put, List.getElem_toArray, List.getElem_cons_succ, List.getElem_cons_zero, List.setIfInBounds_toArray, List.set_cons_zero, List.set_cons_succ]
      refine wpAnyH_take (i := 10) (v := ?_) rfl (by kernel_rfl) (by kernel_rfl) (by kernel_rfl) (fun _ _ _ h => h) (Or.inl ⟨by rfl, ?_⟩) (by assumption) ?_
      rotate_left
      · intro w hSw; (try dsimp only at hSw); go_simp; try with_reducible rfl
      try simp only [Act.put, List.getElem_toArray, List.getElem_cons_succ, List.getElem_cons_zero, List.setIfInBounds_toArray, List.set_cons_zero, List.set_cons_succ]
      refine wpAnyH_take (i := 11) (v := ?_) rfl (by kernel_rfl) (by kernel_rfl) (by kernel_rfl) (fun _ _ _ h => h) (Or.inl ⟨by rfl, ?_⟩) (by assumption) ?_
      rotate_left
      · intro w hSw; (try dsimp only at hSw); go_simp; try with_reducible rfl
      try simp only [Act.put, List.getElem_toArray, List.getElem_cons_succ, List.getElem_cons_zero, List.setIfInBounds_toArray, List.set_cons_zero, List.set_cons_succ]
      refine wpAnyH_take (i := 13) (v := ?_) rfl (by kernel_rfl) (by kernel_rfl) (by kernel_rfl) (fun _ _ _ h => h) (Or.inl ⟨by rfl, ?_⟩) (by assumption) ?_
      rotate_left
      · intro w hSw; (try dsimp only at hSw); go_simp; try with_reducible rfl
      try simp only [Act.put, List.getElem_toArray, List.getElem_cons_succ, List.getElem_cons_zero, List.setIfInBounds_toArray, List.set_cons_zero, List.set_cons_succ]
      refine wpAnyH_take (i := 14) (v := ?_) rfl (by kernel_rfl) (by kernel_rfl) (by kernel_rfl) (fun _ _ _ h => h) (Or.inl ⟨by rfl, ?_⟩) (by assumption) ?_
      rotate_left
      · intro w hSw; (try dsimp only at hSw); go_simp; try with_reducible rfl
      try simp only [Act.put, List.getElem_toArray, List.getElem_cons_succ, List.getElem_cons_zero, List.setIfInBounds_toArray, List.set_cons_zero, List.set_cons_succ]
      refine wpAnyH_ready (rs := [12]) (by kernel_rfl) (by simp) ?_
      refine AllReadyH.cons rfl (fun K hK => ?_) AllReadyH.nil
      go_simp
      refine (rmulI_any e x Q HU.out.2.2.1 HXU.out.1.1 HU.out.2.1.1 _).mono ?_
      rintro e1 y1 ⟨rfl, hy1⟩
      replace hown := hown.same hy1
      go_wp2_with fail
      refine hK.out _ _ ?_ (fun hHeld => ?_)
      · exact RA.same (by with_reducible assumption) (by with_reducible assumption)
      clear hK K
      try simp only [Act.put, List.getElem_toArray, List.getElem_cons_succ, List.getElem_cons_zero, List.setIfInBounds_toArray, List.set_cons_zero, List.set_cons_succ]
      refine wpAnyH_ready (rs := [15]) (by kernel_rfl) (by simp) ?_
      refine AllReadyH.cons rfl (fun K hK => ?_) AllReadyH.nil
      go_simp
      refine (raddI_any y (mulI e x Q) Q HXU.out.2.1 (mulI_u _ _ _).1 HU.out.2.1.1 _).mono ?_
      rintro e1 y2 ⟨rfl, hy2⟩
      rw [show addI y (mulI e x Q) Q = nz from HNZ.out]
      replace hown := hown.same hy2
      go_wp2_with fail
      refine hK.out _ _ ?_ (fun hHeld => ?_)
      · exact RA.same (by with_reducible assumption) (by with_reducible assumption)
      clear hK K
      try simp only [Act.put, List.getElem_toArray, List.getElem_cons_succ, List.getElem_cons_zero, List.setIfInBounds_toArray, List.set_cons_zero, List.set_cons_succ]
      refine wpAnyH_ready (rs := [16]) (by kernel_rfl) (by simp) ?_
      refine AllReadyH.cons rfl (fun K hK => ?_) AllReadyH.nil
      go_simp
      refine hK.out _ _ ?_ (fun hHeld => ?_)
      · exact RA.same (by with_reducible assumption) ((Same.refl _).alloc _)
      clear hK K
      try simp only [Act.put, List.getElem_toArray, List.getElem_cons_succ, List.getElem_cons_zero, List.setIfInBounds_toArray, List.set_cons_zero, List.set_cons_succ]
      refine wpAnyH_ready (rs := [17]) (by kernel_rfl) (by simp) ?_
      refine AllReadyH.cons rfl (fun K hK => ?_) AllReadyH.nil
      have hDk := (RA.base' (by assumption : RA w1 gx xb (xo + k) yb (yo + k) P Q G H ra rn rc x y y2))
      clear hHeld
      rw [if_pos (by rfl)]
      refine wp_append_own _ (.tmp 23) (.tmp 39) 26 rfl w1.heap.size 22 i0 (.int .u64 0) 1 8 Try.underlying26 hi hz0 hz1 hz2 rfl (by decide) _ _ _ rfl (hown.own.alloc _) ⟨y2.heap.size, 0, none⟩ 1 1 [.int .u64 nz] rfl rfl (one_new _ _ _) (one_cell _) (by rw [upS_len]; unfold maxLen; omega) (by rw [upS_len]; omega) (by have := hDk.size; simp; omega) ?_
      intro v' w7 hown' hgrow _
      have hS7 := same_grown hDk hown hgrow
      have hO7 := Lib.hid (OwnI.push hown.u HNU.out (by rw [upS_len]; omega) hown')
      clear hown hown' hgrow
      try simp only [Act.put, List.setIfInBounds_toArray, List.set_cons_zero, List.set_cons_succ]
      refine hK.out _ _ ?_ (fun hHeld => ?_)
      · exact RA.same HSW.out hS7
      clear hK K
      try simp only [Act.put, List.getElem_toArray, List.getElem_cons_succ, List.getElem_cons_zero, List.setIfInBounds_toArray, List.set_cons_zero, List.set_cons_succ]
      refine wpAnyH_take (i := 18) (v := ?_) rfl (by kernel_rfl) (by kernel_rfl) (by kernel_rfl) (fun _ _ _ h => h) (Or.inl ⟨by rfl, ?_⟩) (by assumption) ?_
      rotate_left
      · intro w hSw; (try dsimp only at hSw); go_simp; try with_reducible rfl
      try simp only [Act.put, List.getElem_toArray, List.getElem_cons_succ, List.getElem_cons_zero, List.setIfInBounds_toArray, List.set_cons_zero, List.set_cons_succ]
      refine wpAnyH_done (by kernel_rfl) ?_ _
      clear hHeld
      go_wp2_with fail
      go_roundw
      case rel => exact ⟨k + 1, by go_num, by omega, by rw [upS_snoc, HXX.out, HYY.out, HNZ.out]; exact hO7.out, hS7⟩
      case measure => simp [intOf]; omega
    · obtain rfl : k = xn := by omega
      have HLK := Lib.hid (show upS (ransF Q e) xs ys k = eachS (ransF Q e) xs ys by rw [← HLX.out]; exact upS_each HLE.out)
      rw [HLK.out] at hown
      obtain ⟨oa, on, oc, rfl, hoi⟩ := hown.ints
      have HO := Lib.hid hoi
      have HV := Lib.hid (lenB_yes HLE.out)
      clear hown hoi
      go_wp2_with fail
      go_ret2
      exact ⟨oa, on, oc, by rw [HV.out]; rfl, HO.out, HS.out.trans hD⟩
set_option maxRecDepth 100000 in
set_option maxHeartbeats 1600000 in
theorem rdrw_any (P Q G H : Int) (ra : Option Addr) (rn rc : Nat) (e : Int) (xa ya : Option Addr) (xn xc yn yc : Nat) (xs ys : List Int) (hP : U64 P) (hQ : U64 Q) (he : U64 e) (hn : xn ≤ 1000) (w : World) (hx : IntsAt w xa xn xs) (hy : IntsAt w ya yn ys) :
    Calls Try.prog 26 #[.agg #[.int .u64 P, .int .u64 Q, .int .u64 G, .int .u64 H, .slice ra rn rc], .slice xa xn xc, .slice ya yn yc, .int .u64 e] w fun z w' => ImgRet w z w' (eachS (drwF Q e) xs ys) (lenB xs ys) := by
  obtain ⟨w1, gx, eW, eg, hS0, c0, c1, c2, c3, c4⟩ := par_box w P Q G H (.slice ra rn rc)
  have EW := Lib.hid eW
  have EG := Lib.hid eg
  have HU := Lib.hid (And.intro hP (And.intro hQ he))
  have HLX := Lib.hid hx.len
  have HLY := Lib.hid hy.len
  have hsy := hy.small
  have HX := Lib.hid (hx.same hS0)
  have HY := Lib.hid (hy.same hS0)
  have HS := Lib.hid hS0
  have HB1 := Lib.hid (show BoxS w1 gx P Q G H ra rn rc w1 from ⟨c0, c1, c2, c3, c4, Same.refl _⟩)
  clear eW eg hP hQ he hx hy hS0 c0 c1 c2 c3 c4
  by_cases hl : xn = yn
  case neg =>
    have d0 : ((xn : Int) != yn) = true := by simp; omega
    have hne : ¬ xs.length = ys.length := by rw [HLX.out, HLY.out]; exact hl
    have HV := Lib.hid (And.intro (lenB_no hne) (eachS_no (f := drwF Q e) hne))
    clear hl hne
    go_enter Try.func26, Try.ntmps26
    go_upto_region 1 with fail
    rw [EW.out, EG.out]
    go_wp2_with fail
    go_ret2
    exact ⟨none, 0, 0, by rw [HV.out.1]; rfl, by rw [HV.out.2]; exact ints_nil _, HS.out⟩
  have HYN := Lib.hid hl
  have d0 : ((xn : Int) != yn) = false := by simp; omega
  have HLE := Lib.hid (show xs.length = ys.length by rw [HLX.out, HLY.out]; exact hl)
  clear hl
  obtain ⟨i0, hi, hz0, hz1, hz2⟩ := info_parts info_u64
  go_enter Try.func26, Try.ntmps26
  go_upto_region 1 with fail
  rw [EW.out, EG.out]
  go_wp2_with fail
  go_loopw [10, 11] (fun s10 s11 wr => ∃ k : Nat, s11 = .int .i64 k ∧ k ≤ xn ∧ OwnI wr w1.heap.size s10 (upS (drwF Q e) xs ys k) ∧ Same w1 wr) (fun _ s11 _ => xn - (intOf s11).toNat)
  case atStart => exact ⟨0, rfl, by omega, OwnI.nil _ _, Same.refl _⟩
  case round =>
    obtain ⟨k, rfl, hk, hown, hD⟩ := hrel
    by_cases hlt : k < xn
    · obtain ⟨xb, xo, hxa, hxc⟩ := HX.out.cells (by omega)
      obtain ⟨yb, yo, hya, hyc⟩ := HY.out.cells (by have := HYN.out; omega)
      subst hxa hya
      have hc := hxc k hlt
      have hd := hyc k (by have := HYN.out; omega)
      obtain ⟨x, exx⟩ : ∃ x, xs.getD k 0 = x := ⟨_, rfl⟩
      obtain ⟨y, eyy⟩ : ∃ y, ys.getD k 0 = y := ⟨_, rfl⟩
      rw [exx] at hc
      rw [eyy] at hd
      have HXX := Lib.hid exx
      have HYY := Lib.hid eyy
      have HXU := Lib.hid (show U64 x ∧ U64 y from ⟨by rw [← exx]; exact HX.out.bd k, by rw [← eyy]; exact HY.out.bd k⟩)
      obtain ⟨nz, enz⟩ : ∃ nz, drwF Q e x y = nz := ⟨_, rfl⟩
      have HNZ := Lib.hid enz
      have HNU := Lib.hid (show U64 nz by rw [← enz]; exact drwF_u _ _ _ _)
      have HSW := Lib.hid (show RA w1 gx xb (xo + k) yb (yo + k) P Q G H ra rn rc x y w1 from ⟨hc, hd, HB1.out⟩)
      have hk0 : (0 : Int) ≤ k := by omega
      have hk1 : (k : Int) < xn := by omega
      have hk2 : (k : Int) < yn := by have := HYN.out; omega
      have HSW2 := Lib.hid (RA.same (RA.same HSW.out hD) (drew_same wr))
      replace hown := hown.same (drew_same wr)
      clear hxc hyc hc hd exx eyy enz
      go_upto_region 7 with fail
      clear hD
      refine wp_region_held_drew (S := fun w' => RA w1 gx xb (xo + k) yb (yo + k) P Q G H ra rn rc x y w') (by kernel_rfl) HSW2.out (fun hHeld => ?_)
      obtain ⟨Wd, eWd⟩ : ∃ Wd, wr.drew = Wd := ⟨_, rfl⟩
      rw [eWd] at hHeld hown ⊢
      clear eWd HSW2
      refine wpAnyH_take (i := 0) (v := ?_) rfl (by kernel_rfl) (by kernel_rfl) (by kernel_rfl) (fun _ _ _ h => h) (Or.inl ⟨by rfl, ?_⟩) (by assumption) ?_
      rotate_left
      · intro w hSw; (try dsimp only at hSw); go_simp; try with_reducible rfl
      try simp only [Act.put, List.getElem_toArray, List.getElem_cons_succ, List.getElem_cons_zero, List.setIfInBounds_toArray, List.set_cons_zero, List.set_cons_succ]
      refine wpAnyH_take (i := 1) (v := ?_) rfl (by kernel_rfl) (by kernel_rfl) (by kernel_rfl) (fun _ _ _ h => h) (Or.inl ⟨by rfl, ?_⟩) (by assumption) ?_
      rotate_left
      · intro w hSw; (try dsimp only at hSw); go_simp; try with_reducible rfl
      try simp only [Act.put, List.getElem_toArray, List.getElem_cons_succ, List.getElem_cons_zero, List.setIfInBounds_toArray, List.set_cons_zero, List.set_cons_succ]
      refine wpAnyH_take (i := 2) (v := ?_) rfl (by kernel_rfl) (by kernel_rfl) (by kernel_rfl) (fun _ _ _ h => h) (Or.inl ⟨by rfl, ?_⟩) (by assumption) ?_
      rotate_left
      · intro w hSw; (try dsimp only at hSw); go_simp; try with_reducible rfl
      try simp only [Act.put, List.getElem_toArray, List.getElem_cons_succ, List.getElem_cons_zero, List.setIfInBounds_toArray, List.set_cons_zero, List.set_cons_succ]
      refine wpAnyH_take (i := 3) (v := ?_) rfl (by kernel_rfl) (by kernel_rfl) (by kernel_rfl) (fun _ _ _ h => h) (Or.inl ⟨by rfl, ?_⟩) (by assumption) ?_
      rotate_left
      · intro w hSw; (try dsimp only at hSw); go_simp; try with_reducible rfl
      try simp only [Act.put, List.getElem_toArray, List.getElem_cons_succ, List.getElem_cons_zero, List.setIfInBounds_toArray, List.set_cons_zero, List.set_cons_succ]
      refine wpAnyH_take (i := 4) (v := ?_) rfl (by kernel_rfl) (by kernel_rfl) (by kernel_rfl) (fun _ _ _ h => h) (Or.inl ⟨by rfl, ?_⟩) (by assumption) ?_
      rotate_left
      · intro w hSw; (try dsimp only at hSw); go_simp; try with_reducible rfl
      try simp only [Act.put, List.getElem_toArray, List.getElem_cons_succ, List.getElem_cons_zero, List.setIfInBounds_toArray, List.set_cons_zero, List.set_cons_succ]
      refine wpAnyH_take (i := 5) (v := ?_) rfl (by kernel_rfl) (by kernel_rfl) (by kernel_rfl) (fun _ _ _ h => h) (Or.inl ⟨by rfl, ?_⟩) (by assumption) ?_
      rotate_left
      · intro w hSw; (try dsimp only at hSw); go_simp; try with_reducible rfl
      try simp only [Act.put, List.getElem_toArray, List.getElem_cons_succ, List.getElem_cons_zero, List.setIfInBounds_toArray, List.set_cons_zero, List.set_cons_succ]
      refine wpAnyH_take (i := 6) (v := ?_) rfl (by kernel_rfl) (by kernel_rfl) (by kernel_rfl) (fun _ _ _ h => h) (Or.inl ⟨by rfl, ?_⟩) (by assumption) ?_
      rotate_left
      · intro w hSw; (try dsimp only at hSw); go_simp; try with_reducible rfl
      try simp only [Act.put, List.getElem_toArray, List.getElem_cons_succ, List.getElem_cons_zero, List.setIfInBounds_toArray, List.set_cons_zero, List.set_cons_succ]
      refine wpAnyH_take (i := 7) (v := ?_) rfl (by kernel_rfl) (by kernel_rfl) (by kernel_rfl) (fun _ _ _ h => h) (Or.inl ⟨by rfl, ?_⟩) (by assumption) ?_
      rotate_left
      · intro w hSw; (try dsimp only at hSw); go_simp; try with_reducible rfl
      try simp only [Act.put, List.getElem_toArray, List.getElem_cons_succ, List.getElem_cons_zero, List.setIfInBounds_toArray, List.set_cons_zero, List.set_cons_succ]
      refine wpAnyH_take (i := 8) (v := ?_) rfl (by kernel_rfl) (by kernel_rfl) (by kernel_rfl) (fun _ _ _ h => h) (Or.inl ⟨by rfl, ?_⟩) (by assumption) ?_
      rotate_left
      · intro w hSw; (try dsimp only at hSw); go_simp; try with_reducible rfl
      try simp only [Act.put, List.getElem_toArray, List.getElem_cons_succ, List.getElem_cons_zero, List.setIfInBounds_toArray, List.set_cons_zero, List.set_cons_succ]
      refine wpAnyH_take (i := 9) (v := ?_) rfl (by kernel_rfl) (by kernel_rfl) (by kernel_rfl) (fun _ _ _ h => h) (Or.inl ⟨by rfl, ?_⟩) (by assumption) ?_
      rotate_left
      · intro w hSw; (try dsimp only at hSw); go_simp; try with_reducible rfl
      try simp only [Act.put, List.getElem_toArray, List.getElem_cons_succ, List.getElem_cons_zero, List.setIfInBounds_toArray, List.set_cons_zero, List.set_cons_succ]
      refine wpAnyH_take (i := 10) (v := ?_) rfl (by kernel_rfl) (by kernel_rfl) (by kernel_rfl) (fun _ _ _ h => h) (Or.inl ⟨by rfl, ?_⟩) (by assumption) ?_
      rotate_left
      · intro w hSw; (try dsimp only at hSw); go_simp; try with_reducible rfl
      try simp only [Act.put, List.getElem_toArray, List.getElem_cons_succ, List.getElem_cons_zero, List.setIfInBounds_toArray, List.set_cons_zero, List.set_cons_succ]
      refine wpAnyH_take (i := 11) (v := ?_) rfl (by kernel_rfl) (by kernel_rfl) (by kernel_rfl) (fun _ _ _ h => h) (Or.inl ⟨by rfl, ?_⟩) (by assumption) ?_
      rotate_left
      · intro w hSw; (try dsimp only at hSw); go_simp; try with_reducible rfl
      try simp only [Act.put, List.getElem_toArray, List.getElem_cons_succ, List.getElem_cons_zero, List.setIfInBounds_toArray, List.set_cons_zero, List.set_cons_succ]
      refine wpAnyH_take (i := 13) (v := ?_) rfl (by kernel_rfl) (by kernel_rfl) (by kernel_rfl) (fun _ _ _ h => h) (Or.inl ⟨by rfl, ?_⟩) (by assumption) ?_
      rotate_left
      · intro w hSw; (try dsimp only at hSw); go_simp; try with_reducible rfl
      try simp only [Act.put, List.getElem_toArray, List.getElem_cons_succ, List.getElem_cons_zero, List.setIfInBounds_toArray, List.set_cons_zero, List.set_cons_succ]
      refine wpAnyH_take (i := 14) (v := ?_) rfl (by kernel_rfl) (by kernel_rfl) (by kernel_rfl) (fun _ _ _ h => h) (Or.inl ⟨by rfl, ?_⟩) (by assumption) ?_
      rotate_left
      · intro w hSw; (try dsimp only at hSw); go_simp; try with_reducible rfl
      try simp only [Act.put, List.getElem_toArray, List.getElem_cons_succ, List.getElem_cons_zero, List.setIfInBounds_toArray, List.set_cons_zero, List.set_cons_succ]
      refine wpAnyH_ready (rs := [12]) (by kernel_rfl) (by simp) ?_
      refine AllReadyH.cons rfl (fun K hK => ?_) AllReadyH.nil
      go_simp
      refine (rmulI_any e x Q HU.out.2.2.1 HXU.out.1.1 HU.out.2.1.1 _).mono ?_
      rintro e1 y1 ⟨rfl, hy1⟩
      replace hown := hown.same hy1
      go_wp2_with fail
      refine hK.out _ _ ?_ (fun hHeld => ?_)
      · exact RA.same (by with_reducible assumption) (by with_reducible assumption)
      clear hK K
      try simp only [Act.put, List.getElem_toArray, List.getElem_cons_succ, List.getElem_cons_zero, List.setIfInBounds_toArray, List.set_cons_zero, List.set_cons_succ]
      refine wpAnyH_ready (rs := [15]) (by kernel_rfl) (by simp) ?_
      refine AllReadyH.cons rfl (fun K hK => ?_) AllReadyH.nil
      go_simp
      refine (rsubI_any y (mulI e x Q) Q HXU.out.2.1 (mulI_u _ _ _).1 HU.out.2.1.1 _).mono ?_
      rintro e1 y2 ⟨rfl, hy2⟩
      rw [show subI y (mulI e x Q) Q = nz from HNZ.out]
      replace hown := hown.same hy2
      go_wp2_with fail
      refine hK.out _ _ ?_ (fun hHeld => ?_)
      · exact RA.same (by with_reducible assumption) (by with_reducible assumption)
      clear hK K
      try simp only [Act.put, List.getElem_toArray, List.getElem_cons_succ, List.getElem_cons_zero, List.setIfInBounds_toArray, List.set_cons_zero, List.set_cons_succ]
      refine wpAnyH_ready (rs := [16]) (by kernel_rfl) (by simp) ?_
      refine AllReadyH.cons rfl (fun K hK => ?_) AllReadyH.nil
      go_simp
      refine hK.out _ _ ?_ (fun hHeld => ?_)
      · exact RA.same (by with_reducible assumption) ((Same.refl _).alloc _)
      clear hK K
      try simp only [Act.put, List.getElem_toArray, List.getElem_cons_succ, List.getElem_cons_zero, List.setIfInBounds_toArray, List.set_cons_zero, List.set_cons_succ]
      refine wpAnyH_ready (rs := [17]) (by kernel_rfl) (by simp) ?_
      refine AllReadyH.cons rfl (fun K hK => ?_) AllReadyH.nil
      have hDk := (RA.base' (by assumption : RA w1 gx xb (xo + k) yb (yo + k) P Q G H ra rn rc x y y2))
      clear hHeld
      rw [if_pos (by rfl)]
      refine wp_append_own _ (.tmp 23) (.tmp 39) 26 rfl w1.heap.size 22 i0 (.int .u64 0) 1 8 Try.underlying26 hi hz0 hz1 hz2 rfl (by decide) _ _ _ rfl (hown.own.alloc _) ⟨y2.heap.size, 0, none⟩ 1 1 [.int .u64 nz] rfl rfl (one_new _ _ _) (one_cell _) (by rw [upS_len]; unfold maxLen; omega) (by rw [upS_len]; omega) (by have := hDk.size; simp; omega) ?_
      intro v' w7 hown' hgrow _
      have hS7 := same_grown hDk hown hgrow
      have hO7 := Lib.hid (OwnI.push hown.u HNU.out (by rw [upS_len]; omega) hown')
      clear hown hown' hgrow
      try simp only [Act.put, List.setIfInBounds_toArray, List.set_cons_zero, List.set_cons_succ]
      refine hK.out _ _ ?_ (fun hHeld => ?_)
      · exact RA.same HSW.out hS7
      clear hK K
      try simp only [Act.put, List.getElem_toArray, List.getElem_cons_succ, List.getElem_cons_zero, List.setIfInBounds_toArray, List.set_cons_zero, List.set_cons_succ]
      refine wpAnyH_take (i := 18) (v := ?_) rfl (by kernel_rfl) (by kernel_rfl) (by kernel_rfl) (fun _ _ _ h => h) (Or.inl ⟨by rfl, ?_⟩) (by assumption) ?_
      rotate_left
      · intro w hSw; (try dsimp only at hSw); go_simp; try with_reducible rfl
      try simp only [Act.put, List.getElem_toArray, List.getElem_cons_succ, List.getElem_cons_zero, List.setIfInBounds_toArray, List.set_cons_zero, List.set_cons_succ]
      refine wpAnyH_done (by kernel_rfl) ?_ _
      clear hHeld
      go_wp2_with fail
      go_roundw
      case rel => exact ⟨k + 1, by go_num, by omega, by rw [upS_snoc, HXX.out, HYY.out, HNZ.out]; exact hO7.out, hS7⟩
      case measure => simp [intOf]; omega
    · obtain rfl : k = xn := by omega
      have HLK := Lib.hid (show upS (drwF Q e) xs ys k = eachS (drwF Q e) xs ys by rw [← HLX.out]; exact upS_each HLE.out)
      rw [HLK.out] at hown
      obtain ⟨oa, on, oc, rfl, hoi⟩ := hown.ints
      have HO := Lib.hid hoi
      have HV := Lib.hid (lenB_yes HLE.out)
      clear hown hoi
      go_wp2_with fail
      go_ret2
      exact ⟨oa, on, oc, by rw [HV.out]; rfl, HO.out, HS.out.trans hD⟩
set_option maxRecDepth 100000 in
set_option maxHeartbeats 1600000 in
theorem rextract_any (P Q G H : Int) (ra : Option Addr) (rn rc : Nat) (e f : Int) (xa ya : Option Addr) (xn xc yn yc : Nat) (xs ys : List Int) (hP : U64 P) (hQ : U64 Q) (he : U64 e) (hf : U64 f) (hn : xn ≤ 1000) (w : World) (hx : IntsAt w xa xn xs) (hy : IntsAt w ya yn ys) :
    Calls Try.prog 27 #[.agg #[.int .u64 P, .int .u64 Q, .int .u64 G, .int .u64 H, .slice ra rn rc], .int .u64 e, .slice xa xn xc, .int .u64 f, .slice ya yn yc] w fun z w' => ImgRet w z w' (extL Q e f xs ys) (extB Q e f xs ys) := by
  obtain ⟨W, gx, eW, eg, hS0, c0, c1, c2, c3, c4⟩ := par_box w P Q G H (.slice ra rn rc)
  have EW := Lib.hid eW
  have EG := Lib.hid eg
  have HU := Lib.hid (And.intro hP hQ)
  have HE := Lib.hid (And.intro he hf)
  have HLX := Lib.hid hx.len
  have HLY := Lib.hid hy.len
  have hsy := hy.small
  have HX0 := Lib.hid hx
  have HY0 := Lib.hid hy
  have HB0 := Lib.hid (show BoxS w gx P Q G H ra rn rc W.drew from BoxS.same ⟨c0, c1, c2, c3, c4, hS0⟩ (drew_same W))
  obtain ⟨iv, eiv⟩ : ∃ iv, invI (subI e f Q) Q = iv := ⟨_, rfl⟩
  obtain ⟨ok, eok⟩ : ∃ ok, hasB (subI e f Q).toNat Q.toNat = ok := ⟨_, rfl⟩
  have HIV := Lib.hid (show U64 iv by rw [← eiv]; exact invI_u _ _)
  have HBY := Lib.hid eiv
  have HBO := Lib.hid eok
  clear eW eg hP hQ he hf hx hy hS0 c0 c1 c2 c3 c4 eiv eok
  obtain ⟨i0, hi, hz0, hz1, hz2⟩ := info_parts info_u64
  go_enter Try.func27, Try.ntmps27
  go_upto_region 1 with fail
  rw [EW.out, EG.out]
  go_region_held3 (fun w' => BoxS w gx P Q G H ra rn rc w')
    (first
      | exact HB0.out
      | (with_reducible refine BoxS.same (by assumption) ?_; with_reducible assumption)
      | assumption
      | go_keep)
    (first
      | (go_at_call 51; refine (rsubI_any e f Q HE.out.1.1 HE.out.2.1 HU.out.2.1 _).mono ?_; rintro e1 x1 ⟨rfl, hx1⟩)
      | (go_at_call 52; refine (rinvI_any (subI e f Q) Q (subI_u _ _ _).1 HU.out.2.1 _).mono ?_; rintro e1 x2 ⟨rfl, hx2⟩; rw [HBY.out, HBO.out])
      | fail)
  rename_i hHeld
  obtain ⟨w1, ew1⟩ : ∃ w1, x2 = w1 := ⟨_, rfl⟩
  rw [ew1] at hHeld ⊢
  have HB1 := Lib.hid hHeld.fresh
  have HS := Lib.hid hHeld.base
  have HX := Lib.hid (HX0.out.same hHeld.base)
  have HY := Lib.hid (HY0.out.same hHeld.base)
  clear ew1 hHeld hx1 hx2 HB0
  cases ok
  · go_wp2_with fail
    go_ret2
    exact ⟨none, 0, 0, by unfold extB; rw [HBO.out]; rfl, by unfold extL; rw [HBO.out]; exact ints_nil _, HS.out⟩
  by_cases hl : xn = yn
  case neg =>
    have d0 : ((xn : Int) != yn) = true := by simp; omega
    have hne : ¬ xs.length = ys.length := by rw [HLX.out, HLY.out]; exact hl
    have HV := Lib.hid (And.intro (lenB_no hne) (eachS_no (f := extF Q (invI (subI e f Q) Q)) hne))
    clear hl hne
    go_wp2_with fail
    go_ret2
    exact ⟨none, 0, 0, by unfold extB; rw [HBO.out, HV.out.1]; rfl, by unfold extL; rw [HBO.out, if_pos rfl, HV.out.2]; exact ints_nil _, HS.out⟩
  have HYN := Lib.hid hl
  have d0 : ((xn : Int) != yn) = false := by simp; omega
  have HLE := Lib.hid (show xs.length = ys.length by rw [HLX.out, HLY.out]; exact hl)
  clear hl
  go_wp2_with fail
  go_loopw [14, 15] (fun s14 s15 wr => ∃ k : Nat, s15 = .int .i64 k ∧ k ≤ xn ∧ OwnI wr w1.heap.size s14 (upS (rextF Q iv) xs ys k) ∧ Same w1 wr) (fun _ s15 _ => xn - (intOf s15).toNat)
  case atStart => exact ⟨0, rfl, by omega, OwnI.nil _ _, Same.refl _⟩
  case round =>
    obtain ⟨k, rfl, hk, hown, hD⟩ := hrel
    by_cases hlt : k < xn
    · obtain ⟨xb, xo, hxa, hxc⟩ := HX.out.cells (by omega)
      obtain ⟨yb, yo, hya, hyc⟩ := HY.out.cells (by have := HYN.out; omega)
      subst hxa hya
      have hc := hxc k hlt
      have hd := hyc k (by have := HYN.out; omega)
      obtain ⟨x, exx⟩ : ∃ x, xs.getD k 0 = x := ⟨_, rfl⟩
      obtain ⟨y, eyy⟩ : ∃ y, ys.getD k 0 = y := ⟨_, rfl⟩
      rw [exx] at hc
      rw [eyy] at hd
      have HXX := Lib.hid exx
      have HYY := Lib.hid eyy
      have HXU := Lib.hid (show U64 x ∧ U64 y from ⟨by rw [← exx]; exact HX.out.bd k, by rw [← eyy]; exact HY.out.bd k⟩)
      obtain ⟨nz, enz⟩ : ∃ nz, rextF Q iv x y = nz := ⟨_, rfl⟩
      have HNZ := Lib.hid enz
      have HNU := Lib.hid (show U64 nz by rw [← enz]; exact rextF_u _ _ _ _)
      have HSW := Lib.hid (show RA w1 gx xb (xo + k) yb (yo + k) P Q G H ra rn rc x y w1 from ⟨hc, hd, HB1.out⟩)
      have hk0 : (0 : Int) ≤ k := by omega
      have hk1 : (k : Int) < xn := by omega
      have hk2 : (k : Int) < yn := by have := HYN.out; omega
      have HSW2 := Lib.hid (RA.same (RA.same HSW.out hD) (drew_same wr))
      replace hown := hown.same (drew_same wr)
      clear hxc hyc hc hd exx eyy enz
      go_upto_region 8 with fail
      clear hD
      refine wp_region_held_drew (S := fun w' => RA w1 gx xb (xo + k) yb (yo + k) P Q G H ra rn rc x y w') (by kernel_rfl) HSW2.out (fun hHeld => ?_)
      obtain ⟨Wd, eWd⟩ : ∃ Wd, wr.drew = Wd := ⟨_, rfl⟩
      rw [eWd] at hHeld hown ⊢
      clear eWd HSW2
      refine wpAnyH_take (i := 0) (v := ?_) rfl (by kernel_rfl) (by kernel_rfl) (by kernel_rfl) (fun _ _ _ h => h) (Or.inl ⟨by rfl, ?_⟩) (by assumption) ?_
      rotate_left
      · intro w hSw; (try dsimp only at hSw); go_simp; try with_reducible rfl
      try simp only [Act.put, List.getElem_toArray, List.getElem_cons_succ, List.getElem_cons_zero, List.setIfInBounds_toArray, List.set_cons_zero, List.set_cons_succ]
      refine wpAnyH_take (i := 1) (v := ?_) rfl (by kernel_rfl) (by kernel_rfl) (by kernel_rfl) (fun _ _ _ h => h) (Or.inl ⟨by rfl, ?_⟩) (by assumption) ?_
      rotate_left
      · intro w hSw; (try dsimp only at hSw); go_simp; try with_reducible rfl
      try simp only [Act.put, List.getElem_toArray, List.getElem_cons_succ, List.getElem_cons_zero, List.setIfInBounds_toArray, List.set_cons_zero, List.set_cons_succ]
      refine wpAnyH_take (i := 2) (v := ?_) rfl (by kernel_rfl) (by kernel_rfl) (by kernel_rfl) (fun _ _ _ h => h) (Or.inl ⟨by rfl, ?_⟩) (by assumption) ?_
      rotate_left
      · intro w hSw; (try dsimp only at hSw); go_simp; try with_reducible rfl
      try simp only [Act.put, List.getElem_toArray, List.getElem_cons_succ, List.getElem_cons_zero, List.setIfInBounds_toArray, List.set_cons_zero, List.set_cons_succ]
      refine wpAnyH_take (i := 3) (v := ?_) rfl (by kernel_rfl) (by kernel_rfl) (by kernel_rfl) (fun _ _ _ h => h) (Or.inl ⟨by rfl, ?_⟩) (by assumption) ?_
      rotate_left
      · intro w hSw; (try dsimp only at hSw); go_simp; try with_reducible rfl
      try simp only [Act.put, List.getElem_toArray, List.getElem_cons_succ, List.getElem_cons_zero, List.setIfInBounds_toArray, List.set_cons_zero, List.set_cons_succ]
      refine wpAnyH_take (i := 4) (v := ?_) rfl (by kernel_rfl) (by kernel_rfl) (by kernel_rfl) (fun _ _ _ h => h) (Or.inl ⟨by rfl, ?_⟩) (by assumption) ?_
      rotate_left
      · intro w hSw; (try dsimp only at hSw); go_simp; try with_reducible rfl
      try simp only [Act.put, List.getElem_toArray, List.getElem_cons_succ, List.getElem_cons_zero, List.setIfInBounds_toArray, List.set_cons_zero, List.set_cons_succ]
      refine wpAnyH_take (i := 5) (v := ?_) rfl (by kernel_rfl) (by kernel_rfl) (by kernel_rfl) (fun _ _ _ h => h) (Or.inl ⟨by rfl, ?_⟩) (by assumption) ?_
      rotate_left
      · intro w hSw; (try dsimp only at hSw); go_simp; try with_reducible rfl
      try simp only [Act.put, List.getElem_toArray, List.getElem_cons_succ, List.getElem_cons_zero, List.setIfInBounds_toArray, List.set_cons_zero, List.set_cons_succ]
      refine wpAnyH_take (i := 6) (v := ?_) rfl (by kernel_rfl) (by kernel_rfl) (by kernel_rfl) (fun _ _ _ h => h) (Or.inl ⟨by rfl, ?_⟩) (by assumption) ?_
      rotate_left
      · intro w hSw; (try dsimp only at hSw); go_simp; try with_reducible rfl
      try simp only [Act.put, List.getElem_toArray, List.getElem_cons_succ, List.getElem_cons_zero, List.setIfInBounds_toArray, List.set_cons_zero, List.set_cons_succ]
      refine wpAnyH_take (i := 7) (v := ?_) rfl (by kernel_rfl) (by kernel_rfl) (by kernel_rfl) (fun _ _ _ h => h) (Or.inl ⟨by rfl, ?_⟩) (by assumption) ?_
      rotate_left
      · intro w hSw; (try dsimp only at hSw); go_simp; try with_reducible rfl
      try simp only [Act.put, List.getElem_toArray, List.getElem_cons_succ, List.getElem_cons_zero, List.setIfInBounds_toArray, List.set_cons_zero, List.set_cons_succ]
      refine wpAnyH_take (i := 8) (v := ?_) rfl (by kernel_rfl) (by kernel_rfl) (by kernel_rfl) (fun _ _ _ h => h) (Or.inl ⟨by rfl, ?_⟩) (by assumption) ?_
      rotate_left
      · intro w hSw; (try dsimp only at hSw); go_simp; try with_reducible rfl
      try simp only [Act.put, List.getElem_toArray, List.getElem_cons_succ, List.getElem_cons_zero, List.setIfInBounds_toArray, List.set_cons_zero, List.set_cons_succ]
      refine wpAnyH_take (i := 9) (v := ?_) rfl (by kernel_rfl) (by kernel_rfl) (by kernel_rfl) (fun _ _ _ h => h) (Or.inl ⟨by rfl, ?_⟩) (by assumption) ?_
      rotate_left
      · intro w hSw; (try dsimp only at hSw); go_simp; try with_reducible rfl
      try simp only [Act.put, List.getElem_toArray, List.getElem_cons_succ, List.getElem_cons_zero, List.setIfInBounds_toArray, List.set_cons_zero, List.set_cons_succ]
      refine wpAnyH_take (i := 10) (v := ?_) rfl (by kernel_rfl) (by kernel_rfl) (by kernel_rfl) (fun _ _ _ h => h) (Or.inl ⟨by rfl, ?_⟩) (by assumption) ?_
      rotate_left
      · intro w hSw; (try dsimp only at hSw); go_simp; try with_reducible rfl
      try simp only [Act.put, List.getElem_toArray, List.getElem_cons_succ, List.getElem_cons_zero, List.setIfInBounds_toArray, List.set_cons_zero, List.set_cons_succ]
      refine wpAnyH_take (i := 11) (v := ?_) rfl (by kernel_rfl) (by kernel_rfl) (by kernel_rfl) (fun _ _ _ h => h) (Or.inl ⟨by rfl, ?_⟩) (by assumption) ?_
      rotate_left
      · intro w hSw; (try dsimp only at hSw); go_simp; try with_reducible rfl
      try simp only [Act.put, List.getElem_toArray, List.getElem_cons_succ, List.getElem_cons_zero, List.setIfInBounds_toArray, List.set_cons_zero, List.set_cons_succ]
      refine wpAnyH_take (i := 13) (v := ?_) rfl (by kernel_rfl) (by kernel_rfl) (by kernel_rfl) (fun _ _ _ h => h) (Or.inl ⟨by rfl, ?_⟩) (by assumption) ?_
      rotate_left
      · intro w hSw; (try dsimp only at hSw); go_simp; try with_reducible rfl
      try simp only [Act.put, List.getElem_toArray, List.getElem_cons_succ, List.getElem_cons_zero, List.setIfInBounds_toArray, List.set_cons_zero, List.set_cons_succ]
      refine wpAnyH_take (i := 14) (v := ?_) rfl (by kernel_rfl) (by kernel_rfl) (by kernel_rfl) (fun _ _ _ h => h) (Or.inl ⟨by rfl, ?_⟩) (by assumption) ?_
      rotate_left
      · intro w hSw; (try dsimp only at hSw); go_simp; try with_reducible rfl
      try simp only [Act.put, List.getElem_toArray, List.getElem_cons_succ, List.getElem_cons_zero, List.setIfInBounds_toArray, List.set_cons_zero, List.set_cons_succ]
      refine wpAnyH_ready (rs := [12]) (by kernel_rfl) (by simp) ?_
      refine AllReadyH.cons rfl (fun K hK => ?_) AllReadyH.nil
      go_simp
      refine (rsubI_any x y Q HXU.out.1.1 HXU.out.2.1 HU.out.2.1 _).mono ?_
      rintro e1 y1 ⟨rfl, hy1⟩
      replace hown := hown.same hy1
      go_wp2_with fail
      refine hK.out _ _ ?_ (fun hHeld => ?_)
      · exact RA.same (by with_reducible assumption) (by with_reducible assumption)
      clear hK K
      try simp only [Act.put, List.getElem_toArray, List.getElem_cons_succ, List.getElem_cons_zero, List.setIfInBounds_toArray, List.set_cons_zero, List.set_cons_succ]
      refine wpAnyH_ready (rs := [15]) (by kernel_rfl) (by simp) ?_
      refine AllReadyH.cons rfl (fun K hK => ?_) AllReadyH.nil
      go_simp
      refine (rmulI_any iv (subI x y Q) Q HIV.out.1 (subI_u _ _ _).1 HU.out.2.1 _).mono ?_
      rintro e1 y2 ⟨rfl, hy2⟩
      rw [show mulI iv (subI x y Q) Q = nz from HNZ.out]
      replace hown := hown.same hy2
      go_wp2_with fail
      refine hK.out _ _ ?_ (fun hHeld => ?_)
      · exact RA.same (by with_reducible assumption) (by with_reducible assumption)
      clear hK K
      try simp only [Act.put, List.getElem_toArray, List.getElem_cons_succ, List.getElem_cons_zero, List.setIfInBounds_toArray, List.set_cons_zero, List.set_cons_succ]
      refine wpAnyH_ready (rs := [16]) (by kernel_rfl) (by simp) ?_
      refine AllReadyH.cons rfl (fun K hK => ?_) AllReadyH.nil
      go_simp
      refine hK.out _ _ ?_ (fun hHeld => ?_)
      · exact RA.same (by with_reducible assumption) ((Same.refl _).alloc _)
      clear hK K
      try simp only [Act.put, List.getElem_toArray, List.getElem_cons_succ, List.getElem_cons_zero, List.setIfInBounds_toArray, List.set_cons_zero, List.set_cons_succ]
      refine wpAnyH_ready (rs := [17]) (by kernel_rfl) (by simp) ?_
      refine AllReadyH.cons rfl (fun K hK => ?_) AllReadyH.nil
      have hDk := (RA.base' (by assumption : RA w1 gx xb (xo + k) yb (yo + k) P Q G H ra rn rc x y y2))
      clear hHeld
      rw [if_pos (by rfl)]
      refine wp_append_own _ (.tmp 42) (.tmp 58) 26 rfl w1.heap.size 22 i0 (.int .u64 0) 1 8 Try.underlying26 hi hz0 hz1 hz2 rfl (by decide) _ _ _ rfl (hown.own.alloc _) ⟨y2.heap.size, 0, none⟩ 1 1 [.int .u64 nz] rfl rfl (one_new _ _ _) (one_cell _) (by rw [upS_len]; unfold maxLen; omega) (by rw [upS_len]; omega) (by have := hDk.size; simp; omega) ?_
      intro v' w7 hown' hgrow _
      have hS7 := same_grown hDk hown hgrow
      have hO7 := Lib.hid (OwnI.push hown.u HNU.out (by rw [upS_len]; omega) hown')
      clear hown hown' hgrow
      try simp only [Act.put, List.setIfInBounds_toArray, List.set_cons_zero, List.set_cons_succ]
      refine hK.out _ _ ?_ (fun hHeld => ?_)
      · exact RA.same HSW.out hS7
      clear hK K
      try simp only [Act.put, List.getElem_toArray, List.getElem_cons_succ, List.getElem_cons_zero, List.setIfInBounds_toArray, List.set_cons_zero, List.set_cons_succ]
      refine wpAnyH_take (i := 18) (v := ?_) rfl (by kernel_rfl) (by kernel_rfl) (by kernel_rfl) (fun _ _ _ h => h) (Or.inl ⟨by rfl, ?_⟩) (by assumption) ?_
      rotate_left
      · intro w hSw; (try dsimp only at hSw); go_simp; try with_reducible rfl
      try simp only [Act.put, List.getElem_toArray, List.getElem_cons_succ, List.getElem_cons_zero, List.setIfInBounds_toArray, List.set_cons_zero, List.set_cons_succ]
      refine wpAnyH_done (by kernel_rfl) ?_ _
      clear hHeld
      go_wp2_with fail
      go_roundw
      case rel => exact ⟨k + 1, by go_num, by omega, by rw [upS_snoc, HXX.out, HYY.out, HNZ.out]; exact hO7.out, hS7⟩
      case measure => simp [intOf]; omega
    · obtain rfl : k = xn := by omega
      have HLK := Lib.hid (show upS (rextF Q iv) xs ys k = eachS (extF Q iv) xs ys by rw [← HLX.out, upS_each HLE.out]; exact each_congr (rextF_eq Q iv))
      rw [HLK.out] at hown
      obtain ⟨oa, on, oc, rfl, hoi⟩ := hown.ints
      have HO := Lib.hid hoi
      have HV := Lib.hid (lenB_yes HLE.out)
      clear hown hoi
      go_wp2_with fail
      go_ret2
      exact ⟨oa, on, oc, by unfold extB; rw [HBO.out, HV.out]; rfl, by unfold extL; rw [HBO.out, HBY.out]; exact HO.out, HS.out.trans hD⟩
set_option maxRecDepth 100000 in
set_option maxHeartbeats 1600000 in
theorem rfake_any (P Q G H : Int) (ra : Option Addr) (rn rc : Nat) (ta ba wa : Option Addr) (yn tc bn bc wn wc : Nat) (ts : List Int) (bs : List (List Int)) (e : Int) (ws : List Int) (hP : U64 P) (hQ : U64 Q) (he : U64 e) (w : World) (ht : IntsAt w ta yn ts) (hb : MatAt w ba bn bs) (hw : IntsAt w wa wn ws) :
    Calls Try.prog 29 #[.agg #[.int .u64 P, .int .u64 Q, .int .u64 G, .int .u64 H, .slice ra rn rc], .agg #[.slice ta yn tc, .slice ba bn bc], .int .u64 e, .slice wa wn wc] w fun z w' => ImgRet w z w' (fakL P Q ts bs e ws) (imgB P Q ts bs ws) := by
  obtain ⟨W, gx, cx, eW, eg, ec, hB⟩ := par_claim w P Q G H ra rn rc (.slice ta yn tc) (.slice ba bn bc)
  have EW := Lib.hid eW
  have EG := Lib.hid eg
  have EC := Lib.hid ec
  have HU := Lib.hid (And.intro hP (And.intro hQ he))
  have HT := Lib.hid ht
  have HM := Lib.hid hb
  have HW := Lib.hid hw
  have HB := Lib.hid hB
  have HLY := Lib.hid ht.len
  have hsy := ht.small
  clear eW eg ec hP hQ he ht hb hw hB
  obtain ⟨c0, c1, b0, b1, b2, b3, b4, hS⟩ := HB.out
  obtain ⟨i0, hi, hz0, hz1, hz2⟩ := info_parts info_u64
  go_enter Try.func29, Try.ntmps29
  go_upto_region 1 with fail
  rw [EW.out, EG.out, EC.out]
  go_wp2_with fail
  refine (rimage_any P Q G H ra rn rc ta ba wa yn tc bn bc wn wc ts bs ws HU.out.1 HU.out.2.1 _ (HT.out.same hS) (HM.out.same hS) (HW.out.same hS)).mono ?_
  rintro e1 w1 ⟨ia, xn, ic, rfl, hi', hT⟩
  have HIm := Lib.hid hi'
  replace HB := Lib.hid (ClS.same HB.out hT)
  clear c0 c1 b0 b1 b2 b3 b4 hS hT hi'
  obtain ⟨c0, c1, b0, b1, b2, b3, b4, hS⟩ := HB.out
  by_cases hok : ImgOk P Q ts bs ws
  case neg =>
    have HV := Lib.hid (And.intro (imgB_no hok) (fakL_no (e := e) hok))
    rw [imgB_no hok]
    clear hok
    go_wp2_with fail
    go_ret2
    exact ⟨none, 0, 0, by rw [HV.out.1]; rfl, by rw [HV.out.2]; exact ints_nil _, hS⟩
  have HV := Lib.hid (And.intro (imgB_yes hok) (fakL_yes (e := e) hok))
  have HX := Lib.hid (show IntsAt w1 ia xn (imageS P Q bs ws) by rw [← imgL_yes hok]; exact HIm.out)
  have HY := Lib.hid (HT.out.same hS)
  have HLE := Lib.hid (show (imageS P Q bs ws).length = ts.length by rw [imageS_len, hok.1.b])
  have HLX := Lib.hid HX.out.len
  have HYN := Lib.hid (show xn = yn by rw [← HLX.out, ← HLY.out]; exact HLE.out)
  have hn : xn ≤ 1000 := by
    have := hok.1.t64
    rw [← HLX.out, HLE.out]; omega
  have HB1 := Lib.hid (ClS.fresh HB.out)
  have HS := Lib.hid hS
  rw [imgB_yes hok]
  clear hok
  go_wp2_with fail
  go_loopw [12, 13] (fun s12 s13 wr => ∃ k : Nat, s13 = .int .i64 k ∧ k ≤ xn ∧ OwnI wr w1.heap.size s12 (upS (fakF P Q e) (imageS P Q bs ws) ts k) ∧ Same w1 wr) (fun _ s13 _ => xn - (intOf s13).toNat)
  case atStart => exact ⟨0, rfl, by omega, OwnI.nil _ _, Same.refl _⟩
  case round =>
    obtain ⟨k, rfl, hk, hown, hD⟩ := hrel
    by_cases hlt : k < xn
    · obtain ⟨xb, xo, hxa, hxc⟩ := HX.out.cells (by omega)
      obtain ⟨yb, yo, hya, hyc⟩ := HY.out.cells (by have := HYN.out; omega)
      subst hxa hya
      have hc := hxc k hlt
      have hd := hyc k (by have := HYN.out; omega)
      obtain ⟨x, exx⟩ : ∃ x, (imageS P Q bs ws).getD k 0 = x := ⟨_, rfl⟩
      obtain ⟨y, eyy⟩ : ∃ y, ts.getD k 0 = y := ⟨_, rfl⟩
      rw [exx] at hc
      rw [eyy] at hd
      have HXX := Lib.hid exx
      have HYY := Lib.hid eyy
      have HXU := Lib.hid (show U64 x ∧ U64 y from ⟨by rw [← exx]; exact HX.out.bd k, by rw [← eyy]; exact HY.out.bd k⟩)
      obtain ⟨nz, enz⟩ : ∃ nz, fakF P Q e x y = nz := ⟨_, rfl⟩
      have HNZ := Lib.hid enz
      have HNU := Lib.hid (show U64 nz by rw [← enz]; exact fakF_u _ _ _ _ _)
      have HSW := Lib.hid (show RF w1 gx cx xb (xo + k) yb (yo + k) P Q G H ra rn rc (.slice (some ⟨yb, yo, none⟩) yn tc) (.slice ba bn bc) x y w1 from ⟨hc, hd, HB1.out⟩)
      have hk0 : (0 : Int) ≤ k := by omega
      have hk1 : (k : Int) < xn := by omega
      have hk2 : (k : Int) < yn := by have := HYN.out; omega
      have HSW2 := Lib.hid (RF.same (RF.same HSW.out hD) (drew_same wr))
      replace hown := hown.same (drew_same wr)
      clear hxc hyc hc hd exx eyy enz c0 c1 b0 b1 b2 b3 b4 hS
      go_upto_region 8 with fail
      clear hD
      refine wp_region_held_drew (S := fun w' => RF w1 gx cx xb (xo + k) yb (yo + k) P Q G H ra rn rc (.slice (some ⟨yb, yo, none⟩) yn tc) (.slice ba bn bc) x y w') (by kernel_rfl) HSW2.out (fun hHeld => ?_)
      obtain ⟨Wd, eWd⟩ : ∃ Wd, wr.drew = Wd := ⟨_, rfl⟩
      rw [eWd] at hHeld hown ⊢
      clear eWd HSW2
      refine wpAnyH_take (i := 0) (v := ?_) rfl (by kernel_rfl) (by kernel_rfl) (by kernel_rfl) (fun _ _ _ h => h) (Or.inl ⟨by rfl, ?_⟩) (by assumption) ?_
      rotate_left
      · intro w hSw; (try dsimp only at hSw); go_simp; try with_reducible rfl
      try simp only [Act.put, List.getElem_toArray, List.getElem_cons_succ, List.getElem_cons_zero, List.setIfInBounds_toArray, List.set_cons_zero, List.set_cons_succ]
      refine wpAnyH_take (i := 1) (v := ?_) rfl (by kernel_rfl) (by kernel_rfl) (by kernel_rfl) (fun _ _ _ h => h) (Or.inl ⟨by rfl, ?_⟩) (by assumption) ?_
      rotate_left
      · intro w hSw; (try dsimp only at hSw); go_simp; try with_reducible rfl
      try simp only [Act.put, List.getElem_toArray, List.getElem_cons_succ, List.getElem_cons_zero, List.setIfInBounds_toArray, List.set_cons_zero, List.set_cons_succ]
      refine wpAnyH_take (i := 2) (v := ?_) rfl (by kernel_rfl) (by kernel_rfl) (by kernel_rfl) (fun _ _ _ h => h) (Or.inl ⟨by rfl, ?_⟩) (by assumption) ?_
      rotate_left
      · intro w hSw; (try dsimp only at hSw); go_simp; try with_reducible rfl
      try simp only [Act.put, List.getElem_toArray, List.getElem_cons_succ, List.getElem_cons_zero, List.setIfInBounds_toArray, List.set_cons_zero, List.set_cons_succ]
      refine wpAnyH_take (i := 3) (v := ?_) rfl (by kernel_rfl) (by kernel_rfl) (by kernel_rfl) (fun _ _ _ h => h) (Or.inl ⟨by rfl, ?_⟩) (by assumption) ?_
      rotate_left
      · intro w hSw; (try dsimp only at hSw); go_simp; try with_reducible rfl
      try simp only [Act.put, List.getElem_toArray, List.getElem_cons_succ, List.getElem_cons_zero, List.setIfInBounds_toArray, List.set_cons_zero, List.set_cons_succ]
      refine wpAnyH_take (i := 4) (v := ?_) rfl (by kernel_rfl) (by kernel_rfl) (by kernel_rfl) (fun _ _ _ h => h) (Or.inl ⟨by rfl, ?_⟩) (by assumption) ?_
      rotate_left
      · intro w hSw; (try dsimp only at hSw); go_simp; try with_reducible rfl
      try simp only [Act.put, List.getElem_toArray, List.getElem_cons_succ, List.getElem_cons_zero, List.setIfInBounds_toArray, List.set_cons_zero, List.set_cons_succ]
      refine wpAnyH_take (i := 5) (v := ?_) rfl (by kernel_rfl) (by kernel_rfl) (by kernel_rfl) (fun _ _ _ h => h) (Or.inl ⟨by rfl, ?_⟩) (by assumption) ?_
      rotate_left
      · intro w hSw; (try dsimp only at hSw); go_simp; try with_reducible rfl
      try simp only [Act.put, List.getElem_toArray, List.getElem_cons_succ, List.getElem_cons_zero, List.setIfInBounds_toArray, List.set_cons_zero, List.set_cons_succ]
      refine wpAnyH_take (i := 6) (v := ?_) rfl (by kernel_rfl) (by kernel_rfl) (by kernel_rfl) (fun _ _ _ h => h) (Or.inl ⟨by rfl, ?_⟩) (by assumption) ?_
      rotate_left
      · intro w hSw; (try dsimp only at hSw); go_simp; try with_reducible rfl
      try simp only [Act.put, List.getElem_toArray, List.getElem_cons_succ, List.getElem_cons_zero, List.setIfInBounds_toArray, List.set_cons_zero, List.set_cons_succ]
      refine wpAnyH_take (i := 7) (v := ?_) rfl (by kernel_rfl) (by kernel_rfl) (by kernel_rfl) (fun _ _ _ h => h) (Or.inl ⟨by rfl, ?_⟩) (by assumption) ?_
      rotate_left
      · intro w hSw; (try dsimp only at hSw); go_simp; try with_reducible rfl
      try simp only [Act.put, List.getElem_toArray, List.getElem_cons_succ, List.getElem_cons_zero, List.setIfInBounds_toArray, List.set_cons_zero, List.set_cons_succ]
      refine wpAnyH_take (i := 8) (v := ?_) rfl (by kernel_rfl) (by kernel_rfl) (by kernel_rfl) (fun _ _ _ h => h) (Or.inl ⟨by rfl, ?_⟩) (by assumption) ?_
      rotate_left
      · intro w hSw; (try dsimp only at hSw); go_simp; try with_reducible rfl
      try simp only [Act.put, List.getElem_toArray, List.getElem_cons_succ, List.getElem_cons_zero, List.setIfInBounds_toArray, List.set_cons_zero, List.set_cons_succ]
      refine wpAnyH_take (i := 9) (v := ?_) rfl (by kernel_rfl) (by kernel_rfl) (by kernel_rfl) (fun _ _ _ h => h) (Or.inl ⟨by rfl, ?_⟩) (by assumption) ?_
      rotate_left
      · intro w hSw; (try dsimp only at hSw); go_simp; try with_reducible rfl
      try simp only [Act.put, List.getElem_toArray, List.getElem_cons_succ, List.getElem_cons_zero, List.setIfInBounds_toArray, List.set_cons_zero, List.set_cons_succ]
      refine wpAnyH_take (i := 10) (v := ?_) rfl (by kernel_rfl) (by kernel_rfl) (by kernel_rfl) (fun _ _ _ h => h) (Or.inl ⟨by rfl, ?_⟩) (by assumption) ?_
      rotate_left
      · intro w hSw; (try dsimp only at hSw); go_simp; try with_reducible rfl
      try simp only [Act.put, List.getElem_toArray, List.getElem_cons_succ, List.getElem_cons_zero, List.setIfInBounds_toArray, List.set_cons_zero, List.set_cons_succ]
      refine wpAnyH_take (i := 11) (v := ?_) rfl (by kernel_rfl) (by kernel_rfl) (by kernel_rfl) (fun _ _ _ h => h) (Or.inl ⟨by rfl, ?_⟩) (by assumption) ?_
      rotate_left
      · intro w hSw; (try dsimp only at hSw); go_simp; try with_reducible rfl
      try simp only [Act.put, List.getElem_toArray, List.getElem_cons_succ, List.getElem_cons_zero, List.setIfInBounds_toArray, List.set_cons_zero, List.set_cons_succ]
      refine wpAnyH_take (i := 12) (v := ?_) rfl (by kernel_rfl) (by kernel_rfl) (by kernel_rfl) (fun _ _ _ h => h) (Or.inl ⟨by rfl, ?_⟩) (by assumption) ?_
      rotate_left
      · intro w hSw; (try dsimp only at hSw); go_simp; try with_reducible rfl
      try simp only [Act.put, List.getElem_toArray, List.getElem_cons_succ, List.getElem_cons_zero, List.setIfInBounds_toArray, List.set_cons_zero, List.set_cons_succ]
      refine wpAnyH_ready (rs := [13]) (by kernel_rfl) (by simp) ?_
      refine AllReadyH.cons rfl (fun K hK => ?_) AllReadyH.nil
      go_simp
      refine (rexp_any P Q G H ra rn rc y e HU.out.1.1 HU.out.2.1.1 HU.out.2.1.2 HXU.out.2.1 HU.out.2.2.1 HU.out.2.2.2 _).mono ?_
      rintro e1 y1 ⟨rfl, hy1⟩
      replace hown := hown.same hy1
      go_wp2_with fail
      refine hK.out _ _ ?_ (fun hHeld => ?_)
      · exact RF.same (by with_reducible assumption) (by with_reducible assumption)
      clear hK K
      try simp only [Act.put, List.getElem_toArray, List.getElem_cons_succ, List.getElem_cons_zero, List.setIfInBounds_toArray, List.set_cons_zero, List.set_cons_succ]
      refine wpAnyH_ready (rs := [14]) (by kernel_rfl) (by simp) ?_
      refine AllReadyH.cons rfl (fun K hK => ?_) AllReadyH.nil
      go_simp
      refine (rover_any P Q G H ra rn rc x (expI Q P y e) HU.out.1.1 HXU.out.1.1 (expI_u _ _ _ _).1 _).mono ?_
      rintro e1 y2 ⟨rfl, hy2⟩
      rw [show overI P x (expI Q P y e) = nz from HNZ.out]
      replace hown := hown.same hy2
      go_wp2_with fail
      refine hK.out _ _ ?_ (fun hHeld => ?_)
      · exact RF.same (by with_reducible assumption) (by with_reducible assumption)
      clear hK K
      try simp only [Act.put, List.getElem_toArray, List.getElem_cons_succ, List.getElem_cons_zero, List.setIfInBounds_toArray, List.set_cons_zero, List.set_cons_succ]
      refine wpAnyH_ready (rs := [15]) (by kernel_rfl) (by simp) ?_
      refine AllReadyH.cons rfl (fun K hK => ?_) AllReadyH.nil
      go_simp
      refine hK.out _ _ ?_ (fun hHeld => ?_)
      · exact RF.same (by with_reducible assumption) ((Same.refl _).alloc _)
      clear hK K
      try simp only [Act.put, List.getElem_toArray, List.getElem_cons_succ, List.getElem_cons_zero, List.setIfInBounds_toArray, List.set_cons_zero, List.set_cons_succ]
      refine wpAnyH_ready (rs := [16]) (by kernel_rfl) (by simp) ?_
      refine AllReadyH.cons rfl (fun K hK => ?_) AllReadyH.nil
      have hDk := (RF.base' (by assumption : RF w1 gx cx xb (xo + k) yb (yo + k) P Q G H ra rn rc (.slice (some ⟨yb, yo, none⟩) yn tc) (.slice ba bn bc) x y y2))
      clear hHeld
      rw [if_pos (by rfl)]
      refine wp_append_own _ (.tmp 29) (.tmp 44) 26 rfl w1.heap.size 22 i0 (.int .u64 0) 1 8 Try.underlying26 hi hz0 hz1 hz2 rfl (by decide) _ _ _ rfl (hown.own.alloc _) ⟨y2.heap.size, 0, none⟩ 1 1 [.int .u64 nz] rfl rfl (one_new _ _ _) (one_cell _) (by rw [upS_len]; unfold maxLen; omega) (by rw [upS_len]; omega) (by have := hDk.size; simp; omega) ?_
      intro v' w7 hown' hgrow _
      have hS7 := same_grown hDk hown hgrow
      have hO7 := Lib.hid (OwnI.push hown.u HNU.out (by rw [upS_len]; omega) hown')
      clear hown hown' hgrow
      try simp only [Act.put, List.setIfInBounds_toArray, List.set_cons_zero, List.set_cons_succ]
      refine hK.out _ _ ?_ (fun hHeld => ?_)
      · exact RF.same HSW.out hS7
      clear hK K
      try simp only [Act.put, List.getElem_toArray, List.getElem_cons_succ, List.getElem_cons_zero, List.setIfInBounds_toArray, List.set_cons_zero, List.set_cons_succ]
      refine wpAnyH_take (i := 17) (v := ?_) rfl (by kernel_rfl) (by kernel_rfl) (by kernel_rfl) (fun _ _ _ h => h) (Or.inl ⟨by rfl, ?_⟩) (by assumption) ?_
      rotate_left
      · intro w hSw; (try dsimp only at hSw); go_simp; try with_reducible rfl
      try simp only [Act.put, List.getElem_toArray, List.getElem_cons_succ, List.getElem_cons_zero, List.setIfInBounds_toArray, List.set_cons_zero, List.set_cons_succ]
      refine wpAnyH_done (by kernel_rfl) ?_ _
      clear hHeld
      go_wp2_with fail
      go_roundw
      case rel => exact ⟨k + 1, by go_num, by omega, by rw [upS_snoc, HXX.out, HYY.out, HNZ.out]; exact hO7.out, hS7⟩
      case measure => simp [intOf]; omega
    · obtain rfl : k = xn := by omega
      have HLK := Lib.hid (show upS (fakF P Q e) (imageS P Q bs ws) ts k = eachS (fakF P Q e) (imageS P Q bs ws) ts by rw [← HLX.out]; exact upS_each HLE.out)
      rw [HLK.out] at hown
      obtain ⟨oa, on, oc, rfl, hoi⟩ := hown.ints
      have HO := Lib.hid hoi
      clear hown hoi
      go_wp2_with fail
      go_ret2
      exact ⟨oa, on, oc, by rw [HV.out.1]; rfl, by rw [HV.out.2]; exact HO.out, HS.out.trans hD⟩
end Go.Proofs.Ytlnkpbaibnfhhaa
