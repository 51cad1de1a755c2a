/- each place by place: Answer, Draws, Fake, Extract. -/
import Derived.Test.YtlnkpbaibnfhhaaLinImg
import Derived.Test.YtlnkpbaibnfhhaaW2
import Derived.Test.YtlnkpbaibnfhhaaW3
import Derived.Deep.RegionHeld3
set_option linter.unusedVariables false
set_option linter.unusedSimpArgs false
namespace Go.Proofs.Ytlnkpbaibnfhhaa
open Go.RowKit NT
noncomputable def addI (a b m : Int) : Int := (addS a.toNat b.toNat m.toNat : Nat)
noncomputable def subI (a b m : Int) : Int := (subS a.toNat b.toNat m.toNat : Nat)
theorem addS_small (a b m : Nat) : addS a b m < 4611686018427387904 := by
  classical
  by_cases h : Modulus m
  · rw [addS_yes h]; have := Nat.mod_lt (a + b) (show m > 0 by have := h.1; omega); have := h.2; omega
  · rw [addS_no h]; omega
theorem subS_small (a b m : Nat) : subS a b m < 4611686018427387904 := by
  classical
  by_cases h : Modulus m
  · rw [subS_yes h]; have := Nat.mod_lt (a % m + m - b % m) (show m > 0 by have := h.1; omega); have := h.2; omega
  · rw [subS_no h]; omega
theorem addI_u (a b p : Int) : 0 ≤ addI a b p ∧ addI a b p < 18446744073709551616 := by
  unfold addI; have := addS_small a.toNat b.toNat p.toNat; omega
theorem subI_u (a b p : Int) : 0 ≤ subI a b p ∧ subI a b p < 18446744073709551616 := by
  unfold subI; have := subS_small a.toNat b.toNat p.toNat; omega
theorem addI_any (a b m : Int) (a0 : 0 ≤ a) (b0 : 0 ≤ b) (m0 : 0 ≤ m) (w : World) : Calls Try.prog 45 #[.int .u64 a, .int .u64 b, .int .u64 m] w fun e w' => e = .returned (.int .u64 (addI a b m)) ∧ Same w w' :=
  (add_any a b m a0 b0 m0 w).mono fun _ _ ⟨he, hD⟩ => ⟨he, hD.below⟩
theorem subI_any (a b m : Int) (a0 : 0 ≤ a) (b0 : 0 ≤ b) (m0 : 0 ≤ m) (w : World) : Calls Try.prog 48 #[.int .u64 a, .int .u64 b, .int .u64 m] w fun e w' => e = .returned (.int .u64 (subI a b m)) ∧ Same w w' :=
  (sub_any a b m a0 b0 m0 w).mono fun _ _ ⟨he, hD⟩ => ⟨he, hD.below⟩
theorem mulI_any (a b m : Int) (a0 : 0 ≤ a) (b0 : 0 ≤ b) (m0 : 0 ≤ m) (w : World) : Calls Try.prog 46 #[.int .u64 a, .int .u64 b, .int .u64 m] w fun e w' => e = .returned (.int .u64 (mulI a b m)) ∧ Same w w' :=
  (mul_any a b m a0 b0 m0 w).mono fun _ _ ⟨he, hD⟩ => ⟨he, hD.below⟩
theorem raddI_any (a b m : Int) (a0 : 0 ≤ a) (b0 : 0 ≤ b) (m0 : 0 ≤ m) (w : World) : Calls Try.prog 31 #[.int .u64 a, .int .u64 b, .int .u64 m] w fun e w' => e = .returned (.int .u64 (addI a b m)) ∧ Same w w' :=
  (radd_any a b m a0 b0 m0 w).mono fun _ _ ⟨he, hD⟩ => ⟨he, hD.below⟩
theorem rsubI_any (a b m : Int) (a0 : 0 ≤ a) (b0 : 0 ≤ b) (m0 : 0 ≤ m) (w : World) : Calls Try.prog 51 #[.int .u64 a, .int .u64 b, .int .u64 m] w fun e w' => e = .returned (.int .u64 (subI a b m)) ∧ Same w w' :=
  (rsub_any a b m a0 b0 m0 w).mono fun _ _ ⟨he, hD⟩ => ⟨he, hD.below⟩
theorem rmulI_any (a b m : Int) (a0 : 0 ≤ a) (b0 : 0 ≤ b) (m0 : 0 ≤ m) (w : World) : Calls Try.prog 36 #[.int .u64 a, .int .u64 b, .int .u64 m] w fun e w' => e = .returned (.int .u64 (mulI a b m)) ∧ Same w w' :=
  (rmul_any a b m a0 b0 m0 w).mono fun _ _ ⟨he, hD⟩ => ⟨he, (hD ▸ Same.refl _)⟩
theorem invI_any (a m : Int) (a0 : 0 ≤ a) (m0 : 0 ≤ m) (w : World) : Calls Try.prog 47 #[.int .u64 a, .int .u64 m] w fun e w' => e = .returned (.tuple #[.int .u64 (invI a m), .bool (hasB a.toNat m.toNat)]) ∧ Same w w' :=
  (inv_any a m a0 m0 w).mono fun _ _ ⟨he, hD⟩ => ⟨he, hD.below⟩
theorem rinvI_any (a m : Int) (a0 : 0 ≤ a) (m0 : 0 ≤ m) (w : World) : Calls Try.prog 52 #[.int .u64 a, .int .u64 m] w fun e w' => e = .returned (.tuple #[.int .u64 (invI a m), .bool (hasB a.toNat m.toNat)]) ∧ Same w w' :=
  (rinv_any a m a0 m0 w).mono fun _ _ ⟨he, hD⟩ => ⟨he, hD.below⟩
noncomputable def ansF (Q e x y : Int) : Int := addI (mulI e x Q) y Q
noncomputable def drwF (Q e x y : Int) : Int := subI y (mulI e x Q) Q
noncomputable def fakF (P Q e x y : Int) : Int := overI P x (expI Q P y e)
noncomputable def extF (Q by_ x y : Int) : Int := mulI (subI x y Q) by_ Q
abbrev ES (W0 : World) (gx ex : Nat) (P Q G H : Int) (ra : Option Addr) (rn rc : Nat) (e : Int) (w : World) : Prop := w.cell? ⟨ex, 0, none⟩ = some (.int .u64 e) ∧ BoxS W0 gx P Q G H ra rn rc w
theorem ES.same {W0 w w' : World} {gx ex : Nat} {P Q G H : Int} {ra : Option Addr} {rn rc : Nat} {e : Int} (h : ES W0 gx ex P Q G H ra rn rc e w) (hs : Same w w') : ES W0 gx ex P Q G H ra rn rc e w' := ⟨same_cell hs h.1, h.2.same hs⟩
theorem BoxS.set6 {W0 w : World} {bx : Nat} {P Q G H : Int} {ra : Option Addr} {rn rc : Nat} (h : BoxS W0 bx P Q G H ra rn rc w) {b o : Nat} (hb : b ≠ bx) (hg : W0.heap.size ≤ b) (x : Value) : BoxS W0 bx P Q G H ra rn rc (w.setCell ⟨b, o, none⟩ x) := by
  obtain ⟨c0, c1, c2, c3, c4, h5⟩ := h
  exact ⟨(World.cell?_setCell_far _ _ _ _ hb).trans c0, (World.cell?_setCell_far _ _ _ _ hb).trans c1, (World.cell?_setCell_far _ _ _ _ hb).trans c2, (World.cell?_setCell_far _ _ _ _ hb).trans c3, (World.cell?_setCell_far _ _ _ _ hb).trans c4, Below.setCell h5 hg x⟩
theorem ES.set {W0 w : World} {gx ex : Nat} {P Q G H : Int} {ra : Option Addr} {rn rc : Nat} {e : Int} (h : ES W0 gx ex P Q G H ra rn rc e w) {b o : Nat} (hb : b ≠ gx) (he : b ≠ ex) (hg : W0.heap.size ≤ b) (x : Value) : ES W0 gx ex P Q G H ra rn rc e (w.setCell ⟨b, o, none⟩ x) := ⟨(World.cell?_setCell_far _ _ _ _ he).trans h.1, h.2.set6 hb hg x⟩
noncomputable def lenB (xs ys : List Int) : Bool := open Classical in decide (xs.length = ys.length)
theorem lenB_yes {xs ys : List Int} (h : xs.length = ys.length) : lenB xs ys = true := by unfold lenB; classical exact decide_eq_true h
theorem lenB_no {xs ys : List Int} (h : ¬ xs.length = ys.length) : lenB xs ys = false := by unfold lenB; classical exact decide_eq_false h
theorem ansF_u (Q e x y : Int) : U64 (ansF Q e x y) := addI_u _ _ _
theorem drwF_u (Q e x y : Int) : U64 (drwF Q e x y) := subI_u _ _ _
theorem fakF_u (P Q e x y : Int) : U64 (fakF P Q e x y) := overI_u _ _ _
theorem extF_u (Q e x y : Int) : U64 (extF Q e x y) := mulI_u _ _ _
theorem ans_cl (P Q G H : Int) (ra : Option Addr) (rn rc : Nat) (e x y : Int) (gx ex : Nat) (hP : U64 P) (hQ : U64 Q) (he : U64 e) (hx : U64 x) (hy : U64 y) (W0 w : World) (h : ES W0 gx ex P Q G H ra rn rc e w) :
    Calls Try.prog 44 #[.int .u64 x, .int .u64 y, .pointer (some ⟨ex, 0, none⟩), .pointer (some ⟨gx, 0, none⟩)] w fun z w' => z = .returned (.int .u64 (ansF Q e x y)) ∧ Same w w' := by
  have HB := Lib.hid (show ES w gx ex P Q G H ra rn rc e w.drew from ES.same ⟨h.1, h.2.1, h.2.2.1, h.2.2.2.1, h.2.2.2.2.1, h.2.2.2.2.2.1, Same.refl _⟩ (drew_same _))
  have HU := Lib.hid (And.intro hP (And.intro hQ (And.intro he (And.intro hx hy))))
  clear h hP hQ he hx hy
  go_enter Try.func44, Try.ntmps44
  go_upto_region 1 with fail
  go_region_held3 (fun w' => ES w gx ex P Q G H ra rn rc e w')
    (first
      | exact HB.out
      | (with_reducible refine ES.same (by assumption) ?_; with_reducible assumption)
      | assumption
      | go_keep)
    (first
      | (go_at_call 46; refine (mulI_any e x Q HU.out.2.2.1.1 HU.out.2.2.2.1.1 HU.out.2.1.1 _).mono ?_; rintro e1 w3 ⟨rfl, hT3⟩)
      | (go_at_call 45; refine (addI_any (mulI e x Q) y Q (mulI_u _ _ _).1 HU.out.2.2.2.2.1 HU.out.2.1.1 _).mono ?_; rintro e1 w3 ⟨rfl, hT3⟩)
      | fail)
  rename_i hHeld
  go_wp2_with fail
  go_ret
  exact ⟨rfl, hHeld.2.base⟩
set_option maxRecDepth 100000 in
set_option maxHeartbeats 800000 in
theorem ans_each (P Q G H : Int) (ra : Option Addr) (rn rc : Nat) (e : Int) (gx ex : Nat) (xa ya : Option Addr) (xn xc yn yc : Nat) (xs ys : List Int) (hP : U64 P) (hQ : U64 Q) (he : U64 e) (hn : xn ≤ 1000) (w : World) (h : ES w gx ex P Q G H ra rn rc e w) (hx : IntsAt w xa xn xs) (hy : IntsAt w ya yn ys) :
    Calls Try.prog 43 #[.slice xa xn xc, .slice ya yn yc, .func (.func 44) #[] #[.pointer (some ⟨ex, 0, none⟩), .pointer (some ⟨gx, 0, none⟩)]] w fun z w' => ImgRet w z w' (eachS (ansF Q e) xs ys) (lenB xs ys) := by
  have HU := Lib.hid (And.intro hP (And.intro hQ he))
  have HB := Lib.hid h
  have HX := Lib.hid hx
  have HY := Lib.hid hy
  have HLX := Lib.hid hx.len
  have HLY := Lib.hid hy.len
  have hsy := hy.small
  clear hP hQ he h hx hy
  by_cases hl : xn = yn
  case neg =>
    have d0 : ((xn : Int) != yn) = true := by simp; omega
    have hne : ¬ xs.length = ys.length := by rw [HLX.out, HLY.out]; exact hl
    have HV := Lib.hid (And.intro (lenB_no hne) (eachS_no (f := ansF Q e) hne))
    clear hl hne
    go_enter Try.func43, Try.ntmps43
    go_wp2_with fail
    go_ret2
    exact ⟨none, 0, 0, by rw [HV.out.1]; rfl, by rw [HV.out.2]; exact ints_nil _, Same.refl _⟩
  subst hl
  have d0 : ((xn : Int) != xn) = false := by simp
  have HLE := Lib.hid (show xs.length = ys.length by rw [HLX.out, HLY.out])
  obtain ⟨i0, hi, hz0, hz1, hz2⟩ := info_parts info_u64
  go_enter Try.func43, Try.ntmps43
  go_wp2_with (refine wpList_make_full _ rfl _ _ 26 rfl w.heap.size 22 i0 (.int .u64 0) 1 Try.underlying26 hi hz0 hz1 _ _ _ _ xn rfl rfl rfl rfl (by rw [hz2]; omega) (by unfold maxLen; omega) (Nat.le_refl _) ?_; intro w2 hown hgrow; have HB2 := Lib.hid (ES.same HB.out (same_made hgrow)); have HL0 := Lib.hid (made_ls hown); clear hown hgrow)
  have hwg := World.new_ne w ⟨gx, 0, none⟩ HB.out.2.1
  have hwe := World.new_ne w ⟨ex, 0, none⟩ HB.out.1
  obtain ⟨lx, elx⟩ : ∃ lx, w.heap.size = lx := ⟨_, rfl⟩
  rw [elx] at HL0 hwg hwe ⊢
  have HNE := Lib.hid (And.intro hwg (And.intro hwe (show w.heap.size ≤ lx by omega)))
  clear elx hwg hwe d0
  go_loopw [21] (fun s21 wr => ∃ (i : Nat) (ls : List Int), s21 = .int .i64 i ∧ i ≤ xn ∧ LsAt wr lx ls ∧ ls.length = xn ∧ Hid (∀ k, k < i → ls.getD k 0 = ansF Q e (xs.getD k 0) (ys.getD k 0)) ∧ Hid (ES w gx ex P Q G H ra rn rc e wr)) (fun s21 _ => xn - (intOf s21).toNat)
  case atStart => exact ⟨0, List.replicate xn 0, rfl, by omega, HL0.out, by simp, fun k hk => by omega, HB2⟩
  case round =>
    obtain ⟨i, ls, rfl, hle, hL, hls, hup, HBr⟩ := hrel
    have hS := HBr.out.2.base
    by_cases hlt : i < xn
    · obtain ⟨xb, xo, hxa, hxc⟩ := HX.out.cells (by omega)
      obtain ⟨yb, yo, hya, hyc⟩ := HY.out.cells (by omega)
      subst hxa hya
      have hc := same_cell hS (hxc i hlt)
      have hd := same_cell hS (hyc i hlt)
      obtain ⟨x, exx⟩ : ∃ x, xs.getD i 0 = x := ⟨_, rfl⟩
      obtain ⟨y, eyy⟩ : ∃ y, ys.getD i 0 = y := ⟨_, rfl⟩
      rw [exx] at hc
      rw [eyy] at hd
      have HXX := Lib.hid exx
      have HYY := Lib.hid eyy
      have HXU := Lib.hid (show U64 x ∧ U64 y from ⟨by rw [← exx]; exact HX.out.bd i, by rw [← eyy]; exact HY.out.bd i⟩)
      have hi0 : (0 : Int) ≤ i := by omega
      have hi1 : (i : Int) < xn := by omega
      have HS := Lib.hid hS
      clear hxc hyc exx eyy hS
      go_wp2_with fail
      refine (ans_cl P Q G H ra rn rc e x y gx ex HU.out.1 HU.out.2.1 HU.out.2.2 HXU.out.1 HXU.out.2 w _ HBr.out).mono ?_
      rintro e1 w4 ⟨rfl, hT⟩
      obtain ⟨z, ez⟩ : ∃ z, ansF Q e x y = z := ⟨_, rfl⟩
      have HZ := Lib.hid ez
      rw [ez]
      have hL2 := hL.same hT
      obtain ⟨z0, z1⟩ := hL2.cells i (by omega)
      have hL3 := Lib.hid (hL2.set (j := i) (by omega) z)
      have HBn := Lib.hid (ES.set (ES.same HBr.out hT) HNE.out.1 HNE.out.2.1 HNE.out.2.2 (.int .u64 z) (o := i))
      have hup2 : Hid (∀ k, k < i + 1 → (ls.set i z).getD k 0 = ansF Q e (xs.getD k 0) (ys.getD k 0)) := fun k hk => by
        by_cases e : k = i
        · subst e; rw [getD_set_same (by omega), HXX.out, HYY.out, HZ.out]
        · rw [getD_set_ne e]; exact hup.out k (by omega)
      clear ez hc hd hT hL hup hL2 HBr
      go_wp2_with fail
      go_roundw
      case rel => exact ⟨i + 1, _, by go_num, by omega, hL3.out, by rw [List.length_set]; exact hls, hup2, HBn⟩
      case measure => simp [intOf]; omega
    · obtain rfl : i = xn := by omega
      have HL := Lib.hid (show ls = eachS (ansF Q e) xs ys from list_ext (by rw [eachS_len HLE.out, HLX.out]; exact hls) (fun k hk => by rw [eachS_at HLE.out (by rw [HLX.out]; omega)]; exact hup.out k (by omega)))
      have HI := Lib.hid (hL.ints (by omega) (by
        rw [HL.out]
        intro z hz
        unfold eachS at hz
        rw [if_pos HLE.out] at hz
        obtain ⟨k, _, rfl⟩ := List.mem_map.1 hz
        exact ansF_u _ _ _ _))
      have HV := Lib.hid (lenB_yes HLE.out)
      clear hup
      go_wp2_with fail
      go_ret2
      exact ⟨some ⟨lx, 0, none⟩, _, _, by rw [HV.out]; rfl, by rw [← HL.out, ← hls]; exact HI.out, hS⟩
theorem drw_cl (P Q G H : Int) (ra : Option Addr) (rn rc : Nat) (e x y : Int) (gx ex : Nat) (hP : U64 P) (hQ : U64 Q) (he : U64 e) (hx : U64 x) (hy : U64 y) (W0 w : World) (h : ES W0 gx ex P Q G H ra rn rc e w) :
    Calls Try.prog 50 #[.int .u64 x, .int .u64 y, .pointer (some ⟨ex, 0, none⟩), .pointer (some ⟨gx, 0, none⟩)] w fun z w' => z = .returned (.int .u64 (drwF Q e x y)) ∧ Same w w' := by
  have HB := Lib.hid (show ES w gx ex P Q G H ra rn rc e w.drew from ES.same ⟨h.1, h.2.1, h.2.2.1, h.2.2.2.1, h.2.2.2.2.1, h.2.2.2.2.2.1, Same.refl _⟩ (drew_same _))
  have HU := Lib.hid (And.intro hP (And.intro hQ (And.intro he (And.intro hx hy))))
  clear h hP hQ he hx hy
  go_enter Try.func50, Try.ntmps50
  go_upto_region 1 with fail
  go_region_held3 (fun w' => ES w gx ex P Q G H ra rn rc e w')
    (first
      | exact HB.out
      | (with_reducible refine ES.same (by assumption) ?_; with_reducible assumption)
      | assumption
      | go_keep)
    (first
      | (go_at_call 46; refine (mulI_any e x Q HU.out.2.2.1.1 HU.out.2.2.2.1.1 HU.out.2.1.1 _).mono ?_; rintro e1 w3 ⟨rfl, hT3⟩)
      | (go_at_call 48; refine (subI_any y (mulI e x Q) Q HU.out.2.2.2.2.1 (mulI_u _ _ _).1 HU.out.2.1.1 _).mono ?_; rintro e1 w3 ⟨rfl, hT3⟩)
      | fail)
  rename_i hHeld
  go_wp2_with fail
  go_ret
  exact ⟨rfl, hHeld.2.base⟩
set_option maxRecDepth 100000 in
set_option maxHeartbeats 800000 in
theorem drw_each (P Q G H : Int) (ra : Option Addr) (rn rc : Nat) (e : Int) (gx ex : Nat) (xa ya : Option Addr) (xn xc yn yc : Nat) (xs ys : List Int) (hP : U64 P) (hQ : U64 Q) (he : U64 e) (hn : xn ≤ 1000) (w : World) (h : ES w gx ex P Q G H ra rn rc e w) (hx : IntsAt w xa xn xs) (hy : IntsAt w ya yn ys) :
    Calls Try.prog 43 #[.slice xa xn xc, .slice ya yn yc, .func (.func 50) #[] #[.pointer (some ⟨ex, 0, none⟩), .pointer (some ⟨gx, 0, none⟩)]] w fun z w' => ImgRet w z w' (eachS (drwF Q e) xs ys) (lenB xs ys) := by
  have HU := Lib.hid (And.intro hP (And.intro hQ he))
  have HB := Lib.hid h
  have HX := Lib.hid hx
  have HY := Lib.hid hy
  have HLX := Lib.hid hx.len
  have HLY := Lib.hid hy.len
  have hsy := hy.small
  clear hP hQ he h hx hy
  by_cases hl : xn = yn
  case neg =>
    have d0 : ((xn : Int) != yn) = true := by simp; omega
    have hne : ¬ xs.length = ys.length := by rw [HLX.out, HLY.out]; exact hl
    have HV := Lib.hid (And.intro (lenB_no hne) (eachS_no (f := drwF Q e) hne))
    clear hl hne
    go_enter Try.func43, Try.ntmps43
    go_wp2_with fail
    go_ret2
    exact ⟨none, 0, 0, by rw [HV.out.1]; rfl, by rw [HV.out.2]; exact ints_nil _, Same.refl _⟩
  subst hl
  have d0 : ((xn : Int) != xn) = false := by simp
  have HLE := Lib.hid (show xs.length = ys.length by rw [HLX.out, HLY.out])
  obtain ⟨i0, hi, hz0, hz1, hz2⟩ := info_parts info_u64
  go_enter Try.func43, Try.ntmps43
  go_wp2_with (refine wpList_make_full _ rfl _ _ 26 rfl w.heap.size 22 i0 (.int .u64 0) 1 Try.underlying26 hi hz0 hz1 _ _ _ _ xn rfl rfl rfl rfl (by rw [hz2]; omega) (by unfold maxLen; omega) (Nat.le_refl _) ?_; intro w2 hown hgrow; have HB2 := Lib.hid (ES.same HB.out (same_made hgrow)); have HL0 := Lib.hid (made_ls hown); clear hown hgrow)
  have hwg := World.new_ne w ⟨gx, 0, none⟩ HB.out.2.1
  have hwe := World.new_ne w ⟨ex, 0, none⟩ HB.out.1
  obtain ⟨lx, elx⟩ : ∃ lx, w.heap.size = lx := ⟨_, rfl⟩
  rw [elx] at HL0 hwg hwe ⊢
  have HNE := Lib.hid (And.intro hwg (And.intro hwe (show w.heap.size ≤ lx by omega)))
  clear elx hwg hwe d0
  go_loopw [21] (fun s21 wr => ∃ (i : Nat) (ls : List Int), s21 = .int .i64 i ∧ i ≤ xn ∧ LsAt wr lx ls ∧ ls.length = xn ∧ Hid (∀ k, k < i → ls.getD k 0 = drwF Q e (xs.getD k 0) (ys.getD k 0)) ∧ Hid (ES w gx ex P Q G H ra rn rc e wr)) (fun s21 _ => xn - (intOf s21).toNat)
  case atStart => exact ⟨0, List.replicate xn 0, rfl, by omega, HL0.out, by simp, fun k hk => by omega, HB2⟩
  case round =>
    obtain ⟨i, ls, rfl, hle, hL, hls, hup, HBr⟩ := hrel
    have hS := HBr.out.2.base
    by_cases hlt : i < xn
    · obtain ⟨xb, xo, hxa, hxc⟩ := HX.out.cells (by omega)
      obtain ⟨yb, yo, hya, hyc⟩ := HY.out.cells (by omega)
      subst hxa hya
      have hc := same_cell hS (hxc i hlt)
      have hd := same_cell hS (hyc i hlt)
      obtain ⟨x, exx⟩ : ∃ x, xs.getD i 0 = x := ⟨_, rfl⟩
      obtain ⟨y, eyy⟩ : ∃ y, ys.getD i 0 = y := ⟨_, rfl⟩
      rw [exx] at hc
      rw [eyy] at hd
      have HXX := Lib.hid exx
      have HYY := Lib.hid eyy
      have HXU := Lib.hid (show U64 x ∧ U64 y from ⟨by rw [← exx]; exact HX.out.bd i, by rw [← eyy]; exact HY.out.bd i⟩)
      have hi0 : (0 : Int) ≤ i := by omega
      have hi1 : (i : Int) < xn := by omega
      have HS := Lib.hid hS
      clear hxc hyc exx eyy hS
      go_wp2_with fail
      refine (drw_cl P Q G H ra rn rc e x y gx ex HU.out.1 HU.out.2.1 HU.out.2.2 HXU.out.1 HXU.out.2 w _ HBr.out).mono ?_
      rintro e1 w4 ⟨rfl, hT⟩
      obtain ⟨z, ez⟩ : ∃ z, drwF Q e x y = z := ⟨_, rfl⟩
      have HZ := Lib.hid ez
      rw [ez]
      have hL2 := hL.same hT
      obtain ⟨z0, z1⟩ := hL2.cells i (by omega)
      have hL3 := Lib.hid (hL2.set (j := i) (by omega) z)
      have HBn := Lib.hid (ES.set (ES.same HBr.out hT) HNE.out.1 HNE.out.2.1 HNE.out.2.2 (.int .u64 z) (o := i))
      have hup2 : Hid (∀ k, k < i + 1 → (ls.set i z).getD k 0 = drwF Q e (xs.getD k 0) (ys.getD k 0)) := fun k hk => by
        by_cases e : k = i
        · subst e; rw [getD_set_same (by omega), HXX.out, HYY.out, HZ.out]
        · rw [getD_set_ne e]; exact hup.out k (by omega)
      clear ez hc hd hT hL hup hL2 HBr
      go_wp2_with fail
      go_roundw
      case rel => exact ⟨i + 1, _, by go_num, by omega, hL3.out, by rw [List.length_set]; exact hls, hup2, HBn⟩
      case measure => simp [intOf]; omega
    · obtain rfl : i = xn := by omega
      have HL := Lib.hid (show ls = eachS (drwF Q e) xs ys from list_ext (by rw [eachS_len HLE.out, HLX.out]; exact hls) (fun k hk => by rw [eachS_at HLE.out (by rw [HLX.out]; omega)]; exact hup.out k (by omega)))
      have HI := Lib.hid (hL.ints (by omega) (by
        rw [HL.out]
        intro z hz
        unfold eachS at hz
        rw [if_pos HLE.out] at hz
        obtain ⟨k, _, rfl⟩ := List.mem_map.1 hz
        exact drwF_u _ _ _ _))
      have HV := Lib.hid (lenB_yes HLE.out)
      clear hup
      go_wp2_with fail
      go_ret2
      exact ⟨some ⟨lx, 0, none⟩, _, _, by rw [HV.out]; rfl, by rw [← HL.out, ← hls]; exact HI.out, hS⟩
theorem fak_cl (P Q G H : Int) (ra : Option Addr) (rn rc : Nat) (e x y : Int) (gx ex : Nat) (hP : U64 P) (hQ : U64 Q) (he : U64 e) (hx : U64 x) (hy : U64 y) (W0 w : World) (h : ES W0 gx ex P Q G H ra rn rc e w) :
    Calls Try.prog 53 #[.int .u64 x, .int .u64 y, .pointer (some ⟨gx, 0, none⟩), .pointer (some ⟨ex, 0, none⟩)] w fun z w' => z = .returned (.int .u64 (fakF P Q e x y)) ∧ Same w w' := by
  have HB := Lib.hid (show ES w gx ex P Q G H ra rn rc e w.drew from ES.same ⟨h.1, h.2.1, h.2.2.1, h.2.2.2.1, h.2.2.2.2.1, h.2.2.2.2.2.1, Same.refl _⟩ (drew_same _))
  have HU := Lib.hid (And.intro hP (And.intro hQ (And.intro he (And.intro hx hy))))
  clear h hP hQ he hx hy
  go_enter Try.func53, Try.ntmps53
  go_upto_region 1 with fail
  go_region_held3 (fun w' => ES w gx ex P Q G H ra rn rc e w')
    (first
      | exact HB.out
      | (with_reducible refine ES.same (by assumption) ?_; with_reducible assumption)
      | assumption
      | go_keep)
    (first
      | (go_at_call 35; refine (exp_any P Q G H ra rn rc y e HU.out.1.1 HU.out.2.1.1 HU.out.2.1.2 HU.out.2.2.2.2.1 HU.out.2.2.1.1 HU.out.2.2.1.2 _).mono ?_; rintro e1 w3 ⟨rfl, hT3⟩)
      | (go_at_call 54; refine (over_any P Q G H ra rn rc x (expI Q P y e) HU.out.1.1 HU.out.2.2.2.1.1 (expI_u _ _ _ _).1 _).mono ?_; rintro e1 w3 ⟨rfl, hT3⟩)
      | fail)
  rename_i hHeld
  go_wp2_with fail
  go_ret
  exact ⟨rfl, hHeld.2.base⟩
set_option maxRecDepth 100000 in
set_option maxHeartbeats 800000 in
theorem fak_each (P Q G H : Int) (ra : Option Addr) (rn rc : Nat) (e : Int) (gx ex : Nat) (xa ya : Option Addr) (xn xc yn yc : Nat) (xs ys : List Int) (hP : U64 P) (hQ : U64 Q) (he : U64 e) (hn : xn ≤ 1000) (w : World) (h : ES w gx ex P Q G H ra rn rc e w) (hx : IntsAt w xa xn xs) (hy : IntsAt w ya yn ys) :
    Calls Try.prog 43 #[.slice xa xn xc, .slice ya yn yc, .func (.func 53) #[] #[.pointer (some ⟨gx, 0, none⟩), .pointer (some ⟨ex, 0, none⟩)]] w fun z w' => ImgRet w z w' (eachS (fakF P Q e) xs ys) (lenB xs ys) := by
  have HU := Lib.hid (And.intro hP (And.intro hQ he))
  have HB := Lib.hid h
  have HX := Lib.hid hx
  have HY := Lib.hid hy
  have HLX := Lib.hid hx.len
  have HLY := Lib.hid hy.len
  have hsy := hy.small
  clear hP hQ he h hx hy
  by_cases hl : xn = yn
  case neg =>
    have d0 : ((xn : Int) != yn) = true := by simp; omega
    have hne : ¬ xs.length = ys.length := by rw [HLX.out, HLY.out]; exact hl
    have HV := Lib.hid (And.intro (lenB_no hne) (eachS_no (f := fakF P Q e) hne))
    clear hl hne
    go_enter Try.func43, Try.ntmps43
    go_wp2_with fail
    go_ret2
    exact ⟨none, 0, 0, by rw [HV.out.1]; rfl, by rw [HV.out.2]; exact ints_nil _, Same.refl _⟩
  subst hl
  have d0 : ((xn : Int) != xn) = false := by simp
  have HLE := Lib.hid (show xs.length = ys.length by rw [HLX.out, HLY.out])
  obtain ⟨i0, hi, hz0, hz1, hz2⟩ := info_parts info_u64
  go_enter Try.func43, Try.ntmps43
  go_wp2_with (refine wpList_make_full _ rfl _ _ 26 rfl w.heap.size 22 i0 (.int .u64 0) 1 Try.underlying26 hi hz0 hz1 _ _ _ _ xn rfl rfl rfl rfl (by rw [hz2]; omega) (by unfold maxLen; omega) (Nat.le_refl _) ?_; intro w2 hown hgrow; have HB2 := Lib.hid (ES.same HB.out (same_made hgrow)); have HL0 := Lib.hid (made_ls hown); clear hown hgrow)
  have hwg := World.new_ne w ⟨gx, 0, none⟩ HB.out.2.1
  have hwe := World.new_ne w ⟨ex, 0, none⟩ HB.out.1
  obtain ⟨lx, elx⟩ : ∃ lx, w.heap.size = lx := ⟨_, rfl⟩
  rw [elx] at HL0 hwg hwe ⊢
  have HNE := Lib.hid (And.intro hwg (And.intro hwe (show w.heap.size ≤ lx by omega)))
  clear elx hwg hwe d0
  go_loopw [21] (fun s21 wr => ∃ (i : Nat) (ls : List Int), s21 = .int .i64 i ∧ i ≤ xn ∧ LsAt wr lx ls ∧ ls.length = xn ∧ Hid (∀ k, k < i → ls.getD k 0 = fakF P Q e (xs.getD k 0) (ys.getD k 0)) ∧ Hid (ES w gx ex P Q G H ra rn rc e wr)) (fun s21 _ => xn - (intOf s21).toNat)
  case atStart => exact ⟨0, List.replicate xn 0, rfl, by omega, HL0.out, by simp, fun k hk => by omega, HB2⟩
  case round =>
    obtain ⟨i, ls, rfl, hle, hL, hls, hup, HBr⟩ := hrel
    have hS := HBr.out.2.base
    by_cases hlt : i < xn
    · obtain ⟨xb, xo, hxa, hxc⟩ := HX.out.cells (by omega)
      obtain ⟨yb, yo, hya, hyc⟩ := HY.out.cells (by omega)
      subst hxa hya
      have hc := same_cell hS (hxc i hlt)
      have hd := same_cell hS (hyc i hlt)
      obtain ⟨x, exx⟩ : ∃ x, xs.getD i 0 = x := ⟨_, rfl⟩
      obtain ⟨y, eyy⟩ : ∃ y, ys.getD i 0 = y := ⟨_, rfl⟩
      rw [exx] at hc
      rw [eyy] at hd
      have HXX := Lib.hid exx
      have HYY := Lib.hid eyy
      have HXU := Lib.hid (show U64 x ∧ U64 y from ⟨by rw [← exx]; exact HX.out.bd i, by rw [← eyy]; exact HY.out.bd i⟩)
      have hi0 : (0 : Int) ≤ i := by omega
      have hi1 : (i : Int) < xn := by omega
      have HS := Lib.hid hS
      clear hxc hyc exx eyy hS
      go_wp2_with fail
      refine (fak_cl P Q G H ra rn rc e x y gx ex HU.out.1 HU.out.2.1 HU.out.2.2 HXU.out.1 HXU.out.2 w _ HBr.out).mono ?_
      rintro e1 w4 ⟨rfl, hT⟩
      obtain ⟨z, ez⟩ : ∃ z, fakF P Q e x y = z := ⟨_, rfl⟩
      have HZ := Lib.hid ez
      rw [ez]
      have hL2 := hL.same hT
      obtain ⟨z0, z1⟩ := hL2.cells i (by omega)
      have hL3 := Lib.hid (hL2.set (j := i) (by omega) z)
      have HBn := Lib.hid (ES.set (ES.same HBr.out hT) HNE.out.1 HNE.out.2.1 HNE.out.2.2 (.int .u64 z) (o := i))
      have hup2 : Hid (∀ k, k < i + 1 → (ls.set i z).getD k 0 = fakF P Q e (xs.getD k 0) (ys.getD k 0)) := fun k hk => by
        by_cases e : k = i
        · subst e; rw [getD_set_same (by omega), HXX.out, HYY.out, HZ.out]
        · rw [getD_set_ne e]; exact hup.out k (by omega)
      clear ez hc hd hT hL hup hL2 HBr
      go_wp2_with fail
      go_roundw
      case rel => exact ⟨i + 1, _, by go_num, by omega, hL3.out, by rw [List.length_set]; exact hls, hup2, HBn⟩
      case measure => simp [intOf]; omega
    · obtain rfl : i = xn := by omega
      have HL := Lib.hid (show ls = eachS (fakF P Q e) xs ys from list_ext (by rw [eachS_len HLE.out, HLX.out]; exact hls) (fun k hk => by rw [eachS_at HLE.out (by rw [HLX.out]; omega)]; exact hup.out k (by omega)))
      have HI := Lib.hid (hL.ints (by omega) (by
        rw [HL.out]
        intro z hz
        unfold eachS at hz
        rw [if_pos HLE.out] at hz
        obtain ⟨k, _, rfl⟩ := List.mem_map.1 hz
        exact fakF_u _ _ _ _ _))
      have HV := Lib.hid (lenB_yes HLE.out)
      clear hup
      go_wp2_with fail
      go_ret2
      exact ⟨some ⟨lx, 0, none⟩, _, _, by rw [HV.out]; rfl, by rw [← HL.out, ← hls]; exact HI.out, hS⟩
theorem ext_cl (P Q G H : Int) (ra : Option Addr) (rn rc : Nat) (e x y : Int) (gx ex : Nat) (hP : U64 P) (hQ : U64 Q) (he : U64 e) (hx : U64 x) (hy : U64 y) (W0 w : World) (h : ES W0 gx ex P Q G H ra rn rc e w) :
    Calls Try.prog 49 #[.int .u64 x, .int .u64 y, .pointer (some ⟨gx, 0, none⟩), .pointer (some ⟨ex, 0, none⟩)] w fun z w' => z = .returned (.int .u64 (extF Q e x y)) ∧ Same w w' := by
  have HB := Lib.hid (show ES w gx ex P Q G H ra rn rc e w.drew from ES.same ⟨h.1, h.2.1, h.2.2.1, h.2.2.2.1, h.2.2.2.2.1, h.2.2.2.2.2.1, Same.refl _⟩ (drew_same _))
  have HU := Lib.hid (And.intro hP (And.intro hQ (And.intro he (And.intro hx hy))))
  clear h hP hQ he hx hy
  go_enter Try.func49, Try.ntmps49
  go_upto_region 1 with fail
  go_region_held3 (fun w' => ES w gx ex P Q G H ra rn rc e w')
    (first
      | exact HB.out
      | (with_reducible refine ES.same (by assumption) ?_; with_reducible assumption)
      | assumption
      | go_keep)
    (first
      | (go_at_call 48; refine (subI_any x y Q HU.out.2.2.2.1.1 HU.out.2.2.2.2.1 HU.out.2.1.1 _).mono ?_; rintro e1 w3 ⟨rfl, hT3⟩)
      | (go_at_call 46; refine (mulI_any (subI x y Q) e Q (subI_u _ _ _).1 HU.out.2.2.1.1 HU.out.2.1.1 _).mono ?_; rintro e1 w3 ⟨rfl, hT3⟩)
      | fail)
  rename_i hHeld
  go_wp2_with fail
  go_ret
  exact ⟨rfl, hHeld.2.base⟩
set_option maxRecDepth 100000 in
set_option maxHeartbeats 800000 in
theorem ext_each (P Q G H : Int) (ra : Option Addr) (rn rc : Nat) (e : Int) (gx ex : Nat) (xa ya : Option Addr) (xn xc yn yc : Nat) (xs ys : List Int) (hP : U64 P) (hQ : U64 Q) (he : U64 e) (hn : xn ≤ 1000) (w : World) (h : ES w gx ex P Q G H ra rn rc e w) (hx : IntsAt w xa xn xs) (hy : IntsAt w ya yn ys) :
    Calls Try.prog 43 #[.slice xa xn xc, .slice ya yn yc, .func (.func 49) #[] #[.pointer (some ⟨gx, 0, none⟩), .pointer (some ⟨ex, 0, none⟩)]] w fun z w' => ImgRet w z w' (eachS (extF Q e) xs ys) (lenB xs ys) := by
  have HU := Lib.hid (And.intro hP (And.intro hQ he))
  have HB := Lib.hid h
  have HX := Lib.hid hx
  have HY := Lib.hid hy
  have HLX := Lib.hid hx.len
  have HLY := Lib.hid hy.len
  have hsy := hy.small
  clear hP hQ he h hx hy
  by_cases hl : xn = yn
  case neg =>
    have d0 : ((xn : Int) != yn) = true := by simp; omega
    have hne : ¬ xs.length = ys.length := by rw [HLX.out, HLY.out]; exact hl
    have HV := Lib.hid (And.intro (lenB_no hne) (eachS_no (f := extF Q e) hne))
    clear hl hne
    go_enter Try.func43, Try.ntmps43
    go_wp2_with fail
    go_ret2
    exact ⟨none, 0, 0, by rw [HV.out.1]; rfl, by rw [HV.out.2]; exact ints_nil _, Same.refl _⟩
  subst hl
  have d0 : ((xn : Int) != xn) = false := by simp
  have HLE := Lib.hid (show xs.length = ys.length by rw [HLX.out, HLY.out])
  obtain ⟨i0, hi, hz0, hz1, hz2⟩ := info_parts info_u64
  go_enter Try.func43, Try.ntmps43
  go_wp2_with (refine wpList_make_full _ rfl _ _ 26 rfl w.heap.size 22 i0 (.int .u64 0) 1 Try.underlying26 hi hz0 hz1 _ _ _ _ xn rfl rfl rfl rfl (by rw [hz2]; omega) (by unfold maxLen; omega) (Nat.le_refl _) ?_; intro w2 hown hgrow; have HB2 := Lib.hid (ES.same HB.out (same_made hgrow)); have HL0 := Lib.hid (made_ls hown); clear hown hgrow)
  have hwg := World.new_ne w ⟨gx, 0, none⟩ HB.out.2.1
  have hwe := World.new_ne w ⟨ex, 0, none⟩ HB.out.1
  obtain ⟨lx, elx⟩ : ∃ lx, w.heap.size = lx := ⟨_, rfl⟩
  rw [elx] at HL0 hwg hwe ⊢
  have HNE := Lib.hid (And.intro hwg (And.intro hwe (show w.heap.size ≤ lx by omega)))
  clear elx hwg hwe d0
  go_loopw [21] (fun s21 wr => ∃ (i : Nat) (ls : List Int), s21 = .int .i64 i ∧ i ≤ xn ∧ LsAt wr lx ls ∧ ls.length = xn ∧ Hid (∀ k, k < i → ls.getD k 0 = extF Q e (xs.getD k 0) (ys.getD k 0)) ∧ Hid (ES w gx ex P Q G H ra rn rc e wr)) (fun s21 _ => xn - (intOf s21).toNat)
  case atStart => exact ⟨0, List.replicate xn 0, rfl, by omega, HL0.out, by simp, fun k hk => by omega, HB2⟩
  case round =>
    obtain ⟨i, ls, rfl, hle, hL, hls, hup, HBr⟩ := hrel
    have hS := HBr.out.2.base
    by_cases hlt : i < xn
    · obtain ⟨xb, xo, hxa, hxc⟩ := HX.out.cells (by omega)
      obtain ⟨yb, yo, hya, hyc⟩ := HY.out.cells (by omega)
      subst hxa hya
      have hc := same_cell hS (hxc i hlt)
      have hd := same_cell hS (hyc i hlt)
      obtain ⟨x, exx⟩ : ∃ x, xs.getD i 0 = x := ⟨_, rfl⟩
      obtain ⟨y, eyy⟩ : ∃ y, ys.getD i 0 = y := ⟨_, rfl⟩
      rw [exx] at hc
      rw [eyy] at hd
      have HXX := Lib.hid exx
      have HYY := Lib.hid eyy
      have HXU := Lib.hid (show U64 x ∧ U64 y from ⟨by rw [← exx]; exact HX.out.bd i, by rw [← eyy]; exact HY.out.bd i⟩)
      have hi0 : (0 : Int) ≤ i := by omega
      have hi1 : (i : Int) < xn := by omega
      have HS := Lib.hid hS
      clear hxc hyc exx eyy hS
      go_wp2_with fail
      refine (ext_cl P Q G H ra rn rc e x y gx ex HU.out.1 HU.out.2.1 HU.out.2.2 HXU.out.1 HXU.out.2 w _ HBr.out).mono ?_
      rintro e1 w4 ⟨rfl, hT⟩
      obtain ⟨z, ez⟩ : ∃ z, extF Q e x y = z := ⟨_, rfl⟩
      have HZ := Lib.hid ez
      rw [ez]
      have hL2 := hL.same hT
      obtain ⟨z0, z1⟩ := hL2.cells i (by omega)
      have hL3 := Lib.hid (hL2.set (j := i) (by omega) z)
      have HBn := Lib.hid (ES.set (ES.same HBr.out hT) HNE.out.1 HNE.out.2.1 HNE.out.2.2 (.int .u64 z) (o := i))
      have hup2 : Hid (∀ k, k < i + 1 → (ls.set i z).getD k 0 = extF Q e (xs.getD k 0) (ys.getD k 0)) := fun k hk => by
        by_cases e : k = i
        · subst e; rw [getD_set_same (by omega), HXX.out, HYY.out, HZ.out]
        · rw [getD_set_ne e]; exact hup.out k (by omega)
      clear ez hc hd hT hL hup hL2 HBr
      go_wp2_with fail
      go_roundw
      case rel => exact ⟨i + 1, _, by go_num, by omega, hL3.out, by rw [List.length_set]; exact hls, hup2, HBn⟩
      case measure => simp [intOf]; omega
    · obtain rfl : i = xn := by omega
      have HL := Lib.hid (show ls = eachS (extF Q e) xs ys from list_ext (by rw [eachS_len HLE.out, HLX.out]; exact hls) (fun k hk => by rw [eachS_at HLE.out (by rw [HLX.out]; omega)]; exact hup.out k (by omega)))
      have HI := Lib.hid (hL.ints (by omega) (by
        rw [HL.out]
        intro z hz
        unfold eachS at hz
        rw [if_pos HLE.out] at hz
        obtain ⟨k, _, rfl⟩ := List.mem_map.1 hz
        exact extF_u _ _ _ _))
      have HV := Lib.hid (lenB_yes HLE.out)
      clear hup
      go_wp2_with fail
      go_ret2
      exact ⟨some ⟨lx, 0, none⟩, _, _, by rw [HV.out]; rfl, by rw [← HL.out, ← hls]; exact HI.out, hS⟩
end Go.Proofs.Ytlnkpbaibnfhhaa
