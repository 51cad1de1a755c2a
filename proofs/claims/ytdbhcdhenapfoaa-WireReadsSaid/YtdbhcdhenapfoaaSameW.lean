/- Layer 10: what is the same is told to be. -/
import Derived.Test.YtdbhcdhenapfoaaRefV
import Derived.Deep.RegionHeld3
set_option linter.unusedVariables false
set_option linter.unusedSimpArgs false
namespace Go.Proofs.Ytdbhcdhenapfoaa
open Go.RowKit Go.Maps
abbrev SmS (W0 : World) (b1 o1 b2 o2 : Nat) (x : Int) (w : World) : Prop := w.cell? ⟨b1, o1, none⟩ = some (.int .u64 x) ∧ w.cell? ⟨b2, o2, none⟩ = some (.int .u64 x) ∧ Same W0 w
theorem SmS.same {W0 w w' : World} {b1 o1 b2 o2 : Nat} {x : Int} (h : SmS W0 b1 o1 b2 o2 x w) (hs : Same w w') : SmS W0 b1 o1 b2 o2 x w' := ⟨same_cell hs h.1, same_cell hs h.2.1, h.2.2.trans hs⟩
theorem rsame_yes (a b : Option Addr) (n m ca cb : Nat) (xs : List Int) (w : World) (hx : IntsAt w a n xs) (hy : IntsAt w b m xs) :
    Calls Try.prog 45 #[.slice a n ca, .slice b m cb] w fun z w' => z = .returned (.bool true) ∧ Same w w' := by
  have HX := Lib.hid hx
  have HY := Lib.hid hy
  have hnm : m = n := hy.len.symm.trans hx.len
  have hsx := hx.small
  clear hx hy
  subst hnm
  have d0 : ((m : Int) != m) = false := by simp
  go_enter Try.func45, Try.ntmps45
  go_wp2_with fail
  go_loopw [5] (fun s5 wr => ∃ i : Nat, s5 = .int .i64 i ∧ i ≤ m ∧ Same w wr) (fun s5 _ => m - (intOf s5).toNat)
  case atStart => exact ⟨0, rfl, by omega, Same.refl _⟩
  case round =>
    obtain ⟨i, rfl, hi, hD⟩ := hrel
    by_cases hlt : i < m
    · obtain ⟨xb, xo, hxa, hxc⟩ := HX.out.cells (by omega)
      obtain ⟨yb, yo, hya, hyc⟩ := HY.out.cells (by omega)
      subst hxa hya
      have hc := hxc i hlt
      have hd := hyc i hlt
      obtain ⟨x, ex⟩ : ∃ x, xs.getD i 0 = x := ⟨_, rfl⟩
      rw [ex] at hc hd
      have HS0 := Lib.hid (show SmS w xb (xo + i) yb (yo + i) x wr.drew from SmS.same ⟨same_cell hD hc, same_cell hD hd, hD⟩ (drew_same _))
      have hi0 : (0 : Int) ≤ i := by omega
      have hi1 : (i : Int) < m := by omega
      have d1 : (x != x) = false := by simp
      clear hxc hyc ex hc hd hD
      go_upto_region 6 with fail
      go_region_held3 (fun w' => SmS w xb (xo + i) yb (yo + i) x w')
        (first
          | exact HS0.out
          | assumption
          | go_keep)
        (fail)
      rename_i hHeld
      have HH := Lib.hid hHeld.2.2
      clear hHeld HS0
      go_wp2_with fail
      go_roundw
      case rel => exact ⟨i + 1, by go_num, by omega, HH.out⟩
      case measure => simp [intOf]; omega
    · obtain rfl : i = m := by omega
      go_wp2_with fail
      go_ret
      exact ⟨rfl, hD⟩
theorem rsamep_yes (a1 : Option Addr) (n1 c1 : Nat) (a2 : Option Addr) (n2 c2 : Nat) (b1 : Option Addr) (m1 d1 : Nat) (b2 : Option Addr) (m2 d2 : Nat) (p : ProofD) (w : World) (h1 : IntsAt w a1 n1 p.1) (h2 : IntsAt w a2 n2 p.2) (k1 : IntsAt w b1 m1 p.1) (k2 : IntsAt w b2 m2 p.2) :
    Calls Try.prog 17 #[.agg #[.slice a1 n1 c1, .slice a2 n2 c2], .agg #[.slice b1 m1 d1, .slice b2 m2 d2]] w fun z w' => z = .returned (.bool true) ∧ Same w w' := by
  have H1 := Lib.hid h1
  have H2 := Lib.hid h2
  have K1 := Lib.hid k1
  have K2 := Lib.hid k2
  obtain ⟨pb, epb⟩ : ∃ pb, w.heap.size = pb := ⟨_, rfl⟩
  obtain ⟨w0, ew0⟩ : ∃ w0, (w.alloc (.cells #[.slice a1 n1 c1, .slice a2 n2 c2] 26)).alloc (.cells #[.slice b1 m1 d1, .slice b2 m2 d2] 26) = w0 := ⟨_, rfl⟩
  have hsz : (w.alloc (.cells #[.slice a1 n1 c1, .slice a2 n2 c2] 26)).heap.size = pb + 1 := by rw [← epb]; simp
  have HS0 := Lib.hid (show Same w w0 by rw [← ew0]; exact ((Same.refl w).alloc _).alloc _)
  have HB1 := Lib.hid (show w0.heap[pb]? = some (.cells #[.slice a1 n1 c1, .slice a2 n2 c2] 26 (0, 0)) by rw [← ew0, ← epb]; exact ((Same.refl _).alloc _).keep (heap_new _ _))
  have HB2 := Lib.hid (show w0.heap[pb + 1]? = some (.cells #[.slice b1 m1 d1, .slice b2 m2 d2] 26 (0, 0)) by rw [← ew0, ← hsz]; exact heap_new _ _)
  have g0 : w0.cell? ⟨pb, 0, none⟩ = some (.slice a1 n1 c1) := by rw [cell_at HB1.out]; rfl
  have g1 : w0.cell? ⟨pb + 1, 0, none⟩ = some (.slice b1 m1 d1) := by rw [cell_at HB2.out]; rfl
  have EW0 := Lib.hid ew0
  have EPB := Lib.hid epb
  clear h1 h2 k1 k2 epb ew0 hsz
  go_enter Try.func17, Try.ntmps17
  go_upto_region 1 with fail
  rw [EW0.out, EPB.out]
  go_wp2_with fail
  refine (rsame_yes a1 b1 n1 m1 c1 d1 p.1 w0 (H1.out.same HS0.out) (K1.out.same HS0.out)).mono ?_
  rintro e w1 ⟨rfl, hs1⟩
  have HS1 := Lib.hid (HS0.out.trans hs1)
  have e0 : w1.cell? ⟨pb, 1, none⟩ = some (.slice a2 n2 c2) := by rw [cell_at (hs1.keep HB1.out)]; rfl
  have e1 : w1.cell? ⟨pb + 1, 1, none⟩ = some (.slice b2 m2 d2) := by rw [cell_at (hs1.keep HB2.out)]; rfl
  clear hs1 g0 g1
  go_wp2_with fail
  refine (rsame_yes a2 b2 n2 m2 c2 d2 p.2 w1 (H2.out.same HS1.out) (K2.out.same HS1.out)).mono ?_
  rintro e w2 ⟨rfl, hs2⟩
  have HS2 := Lib.hid (HS1.out.trans hs2)
  clear hs2 e0 e1
  go_wp2_with fail
  go_ret
  exact ⟨rfl, HS2.out⟩
end Go.Proofs.Ytdbhcdhenapfoaa
