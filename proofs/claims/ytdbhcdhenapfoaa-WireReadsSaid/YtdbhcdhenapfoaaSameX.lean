/- Layer 10: mixings that are the same are told to be. -/
import Derived.Test.YtdbhcdhenapfoaaRefW
import Derived.Test.YtdbhcdhenapfoaaFewW
import Derived.Deep.RegionHeld3
set_option linter.unusedVariables false
set_option linter.unusedSimpArgs false
namespace Go.Proofs.Ytdbhcdhenapfoaa
open Go.RowKit Go.Maps
theorem cons6 {a b c d e f a' b' c' d' e' f' : Int} (h : [a, b, c, d, e, f] = [a', b', c', d', e', f']) : a = a' ∧ b = b' ∧ c = c' ∧ d = d' ∧ e = e' ∧ f = f' := by
  injection h with h0 h
  injection h with h1 h
  injection h with h2 h
  injection h with h3 h
  injection h with h4 h
  injection h with h5 h
  exact ⟨h0, h1, h2, h3, h4, h5⟩
abbrev BtAt (w : World) (bk o : Nat) (x0 x1 x2 x3 x4 x5 : Int) : Prop := w.cell? ⟨bk, o, none⟩ = some (.int .u64 x0) ∧ w.cell? ⟨bk, o + 1, none⟩ = some (.int .u64 x1) ∧ w.cell? ⟨bk, o + 2, none⟩ = some (.int .u64 x2) ∧ w.cell? ⟨bk, o + 3, none⟩ = some (.int .u64 x3) ∧ w.cell? ⟨bk, o + 4, none⟩ = some (.int .u64 x4) ∧ w.cell? ⟨bk, o + 5, none⟩ = some (.int .u64 x5)
theorem BtAt.same {w w' : World} {bk o : Nat} {x0 x1 x2 x3 x4 x5 : Int} (h : BtAt w bk o x0 x1 x2 x3 x4 x5) (hs : Same w w') : BtAt w' bk o x0 x1 x2 x3 x4 x5 :=
  ⟨same_cell hs h.1, same_cell hs h.2.1, same_cell hs h.2.2.1, same_cell hs h.2.2.2.1, same_cell hs h.2.2.2.2.1, same_cell hs h.2.2.2.2.2⟩
set_option maxHeartbeats 1600000 in
theorem rsamel_yes (a b : Option Addr) (n m ca cb : Nat) (ls : List LetterD) (w : World) (hx : LetsAt w a n ls) (hy : LetsAt w b m ls) :
    Calls Try.prog 43 #[.slice a n ca, .slice b m cb] w fun z w' => z = .returned (.bool true) ∧ Same w w' := by
  have HX := Lib.hid hx
  have HY := Lib.hid hy
  have hnm : m = n := hy.len.symm.trans hx.len
  have hsx := hx.small
  clear hx hy
  subst hnm
  have d0 : ((m : Int) != m) = false := by simp
  go_enter Try.func43, Try.ntmps43
  go_wp2_with fail
  go_loopw [5] (fun s5 wr => ∃ i : Nat, s5 = .int .i64 i ∧ i ≤ m ∧ Hid (Same w wr)) (fun s5 _ => m - (intOf s5).toNat)
  case atStart => exact ⟨0, rfl, by omega, Lib.hid (Same.refl _)⟩
  case round =>
    obtain ⟨i, rfl, hi, hD⟩ := hrel
    obtain ⟨wo, rfl⟩ : ∃ wz, wz = wr := ⟨_, rfl⟩
    by_cases hlt : i < m
    · have hi0 : (0 : Int) ≤ i := by omega
      have hi1 : (i : Int) < m := by omega
      obtain ⟨bk, off, x0, x1, x2, x3, x4, x5, a1, n1, c1, a2, n2, c2, rfl, e1, hu, hc, q1, q2⟩ := (HX.out.same hD.out).it i hlt
      obtain ⟨bj, oft, y0, y1, y2, y3, y4, y5, b1, m1, d1, b2, m2, d2, rfl, f1, hv, hd, r1, r2⟩ := (HY.out.same hD.out).it i hlt
      try simp only at e1 f1 q1 q2 r1 r2
      obtain ⟨rfl, rfl, rfl, rfl, rfl, rfl⟩ := cons6 (e1.symm.trans f1)
      obtain ⟨p, ep⟩ : ∃ p, (ls.getD i ([], [], [])).2 = p := ⟨_, rfl⟩
      rw [ep] at q1 q2 r1 r2
      have Q1 := Lib.hid q1
      have Q2 := Lib.hid q2
      have R1 := Lib.hid r1
      have R2 := Lib.hid r2
      have hA : LtAt wo bk (off + i * 8) x0 x1 x2 x3 x4 x5 a1 n1 c1 a2 n2 c2 := ⟨hc 0 (by omega), hc 1 (by omega), hc 2 (by omega), hc 3 (by omega), hc 4 (by omega), hc 5 (by omega), hc 6 (by omega), hc 7 (by omega)⟩
      have hB : LtAt wo bj (oft + i * 8) x0 x1 x2 x3 x4 x5 b1 m1 d1 b2 m2 d2 := ⟨hd 0 (by omega), hd 1 (by omega), hd 2 (by omega), hd 3 (by omega), hd 4 (by omega), hd 5 (by omega), hd 6 (by omega), hd 7 (by omega)⟩
      have HSO := Lib.hid (show Same wo wo.drew from drew_same _)
      obtain ⟨wd, ewd⟩ : ∃ wd, wo.drew = wd := ⟨_, rfl⟩
      have hsd : Same wo wd := by rw [← ewd]; exact drew_same _
      have HSD := Lib.hid (hD.out.trans hsd)
      have HC := Lib.hid (And.intro (hA.same hsd) (And.intro (hB.same hsd) (Same.refl wd)))
      have EWD := Lib.hid ewd
      have hbs := box_self x0 x1 x2 x3 x4 x5
      rw [ewd] at HSO
      clear hu hv hc hd q1 q2 r1 r2 e1 f1 ep hA hB
      clear ewd hsd
      go_upto_region 6 with fail
      refine wp_region_held_drew (S := fun w' => Hid (LtAt w' bk (off + i * 8) x0 x1 x2 x3 x4 x5 a1 n1 c1 a2 n2 c2 ∧ LtAt w' bj (oft + i * 8) x0 x1 x2 x3 x4 x5 b1 m1 d1 b2 m2 d2 ∧ Same wd w')) (by kernel_rfl) (by rw [EWD.out]; exact HC) (fun hHeld => ?_)
      rw [EWD.out] at hHeld ⊢
      refine wpAnyH_take (i := 0) (v := ?_) rfl (by kernel_rfl) (by kernel_rfl) (by kernel_rfl) (fun _ _ _ h => h) (Or.inl ⟨by rfl, ?_⟩) (by assumption) ?_
      rotate_left
      · intro w hSw; obtain ⟨k0, k1, k2, k3, k4, k5, k6, k7⟩ := hSw.out.1; obtain ⟨j0, j1, j2, j3, j4, j5, j6, j7⟩ := hSw.out.2.1; go_simp; try with_reducible rfl
      try simp only [Act.put, List.getElem_toArray, List.getElem_cons_succ, List.getElem_cons_zero, List.setIfInBounds_toArray, List.set_cons_zero, List.set_cons_succ]
      refine wpAnyH_take (i := 1) (v := ?_) rfl (by kernel_rfl) (by kernel_rfl) (by kernel_rfl) (fun _ _ _ h => h) (Or.inl ⟨by rfl, ?_⟩) (by assumption) ?_
      rotate_left
      · intro w hSw; obtain ⟨k0, k1, k2, k3, k4, k5, k6, k7⟩ := hSw.out.1; obtain ⟨j0, j1, j2, j3, j4, j5, j6, j7⟩ := hSw.out.2.1; go_simp; try with_reducible rfl
      try simp only [Act.put, List.getElem_toArray, List.getElem_cons_succ, List.getElem_cons_zero, List.setIfInBounds_toArray, List.set_cons_zero, List.set_cons_succ]
      refine wpAnyH_take (i := 2) (v := ?_) rfl (by kernel_rfl) (by kernel_rfl) (by kernel_rfl) (fun _ _ _ h => h) (Or.inl ⟨by rfl, ?_⟩) (by assumption) ?_
      rotate_left
      · intro w hSw; obtain ⟨k0, k1, k2, k3, k4, k5, k6, k7⟩ := hSw.out.1; obtain ⟨j0, j1, j2, j3, j4, j5, j6, j7⟩ := hSw.out.2.1; go_simp; try with_reducible rfl
      try simp only [Act.put, List.getElem_toArray, List.getElem_cons_succ, List.getElem_cons_zero, List.setIfInBounds_toArray, List.set_cons_zero, List.set_cons_succ]
      refine wpAnyH_take (i := 3) (v := ?_) rfl (by kernel_rfl) (by kernel_rfl) (by kernel_rfl) (fun _ _ _ h => h) (Or.inl ⟨by rfl, ?_⟩) (by assumption) ?_
      rotate_left
      · intro w hSw; obtain ⟨k0, k1, k2, k3, k4, k5, k6, k7⟩ := hSw.out.1; obtain ⟨j0, j1, j2, j3, j4, j5, j6, j7⟩ := hSw.out.2.1; go_simp; try with_reducible rfl
      try simp only [Act.put, List.getElem_toArray, List.getElem_cons_succ, List.getElem_cons_zero, List.setIfInBounds_toArray, List.set_cons_zero, List.set_cons_succ]
      refine wpAnyH_take (i := 4) (v := ?_) rfl (by kernel_rfl) (by kernel_rfl) (by kernel_rfl) (fun _ _ _ h => h) (Or.inl ⟨by rfl, ?_⟩) (by assumption) ?_
      rotate_left
      · intro w hSw; obtain ⟨k0, k1, k2, k3, k4, k5, k6, k7⟩ := hSw.out.1; obtain ⟨j0, j1, j2, j3, j4, j5, j6, j7⟩ := hSw.out.2.1; go_simp; try with_reducible rfl
      try simp only [Act.put, List.getElem_toArray, List.getElem_cons_succ, List.getElem_cons_zero, List.setIfInBounds_toArray, List.set_cons_zero, List.set_cons_succ]
      refine wpAnyH_take (i := 5) (v := ?_) rfl (by kernel_rfl) (by kernel_rfl) (by kernel_rfl) (fun _ _ _ h => h) (Or.inl ⟨by rfl, ?_⟩) (by assumption) ?_
      rotate_left
      · intro w hSw; obtain ⟨k0, k1, k2, k3, k4, k5, k6, k7⟩ := hSw.out.1; obtain ⟨j0, j1, j2, j3, j4, j5, j6, j7⟩ := hSw.out.2.1; go_simp; try with_reducible rfl
      try simp only [Act.put, List.getElem_toArray, List.getElem_cons_succ, List.getElem_cons_zero, List.setIfInBounds_toArray, List.set_cons_zero, List.set_cons_succ]
      refine wpAnyH_take (i := 6) (v := ?_) rfl (by kernel_rfl) (by kernel_rfl) (by kernel_rfl) (fun _ _ _ h => h) (Or.inl ⟨by rfl, ?_⟩) (by assumption) ?_
      rotate_left
      · intro w hSw; obtain ⟨k0, k1, k2, k3, k4, k5, k6, k7⟩ := hSw.out.1; obtain ⟨j0, j1, j2, j3, j4, j5, j6, j7⟩ := hSw.out.2.1; go_simp; try with_reducible rfl
      try simp only [Act.put, List.getElem_toArray, List.getElem_cons_succ, List.getElem_cons_zero, List.setIfInBounds_toArray, List.set_cons_zero, List.set_cons_succ]
      refine wpAnyH_take (i := 7) (v := ?_) rfl (by kernel_rfl) (by kernel_rfl) (by kernel_rfl) (fun _ _ _ h => h) (Or.inl ⟨by rfl, ?_⟩) (by assumption) ?_
      rotate_left
      · intro w hSw; obtain ⟨k0, k1, k2, k3, k4, k5, k6, k7⟩ := hSw.out.1; obtain ⟨j0, j1, j2, j3, j4, j5, j6, j7⟩ := hSw.out.2.1; go_simp; try with_reducible rfl
      try simp only [Act.put, List.getElem_toArray, List.getElem_cons_succ, List.getElem_cons_zero, List.setIfInBounds_toArray, List.set_cons_zero, List.set_cons_succ]
      refine wpAnyH_take (i := 8) (v := ?_) rfl (by kernel_rfl) (by kernel_rfl) (by kernel_rfl) (fun _ _ _ h => h) (Or.inl ⟨by rfl, ?_⟩) (by assumption) ?_
      rotate_left
      · intro w hSw; obtain ⟨k0, k1, k2, k3, k4, k5, k6, k7⟩ := hSw.out.1; obtain ⟨j0, j1, j2, j3, j4, j5, j6, j7⟩ := hSw.out.2.1; go_simp; try with_reducible rfl
      try simp only [Act.put, List.getElem_toArray, List.getElem_cons_succ, List.getElem_cons_zero, List.setIfInBounds_toArray, List.set_cons_zero, List.set_cons_succ]
      refine wpAnyH_take (i := 9) (v := ?_) rfl (by kernel_rfl) (by kernel_rfl) (by kernel_rfl) (fun _ _ _ h => h) (Or.inl ⟨by rfl, ?_⟩) (by assumption) ?_
      rotate_left
      · intro w hSw; obtain ⟨k0, k1, k2, k3, k4, k5, k6, k7⟩ := hSw.out.1; obtain ⟨j0, j1, j2, j3, j4, j5, j6, j7⟩ := hSw.out.2.1; go_simp; try with_reducible rfl
      try simp only [Act.put, List.getElem_toArray, List.getElem_cons_succ, List.getElem_cons_zero, List.setIfInBounds_toArray, List.set_cons_zero, List.set_cons_succ]
      refine wpAnyH_take (i := 10) (v := ?_) rfl (by kernel_rfl) (by kernel_rfl) (by kernel_rfl) (fun _ _ _ h => h) (Or.inl ⟨by rfl, ?_⟩) (by assumption) ?_
      rotate_left
      · intro w hSw; obtain ⟨k0, k1, k2, k3, k4, k5, k6, k7⟩ := hSw.out.1; obtain ⟨j0, j1, j2, j3, j4, j5, j6, j7⟩ := hSw.out.2.1; go_simp; try with_reducible rfl
      try simp only [Act.put, List.getElem_toArray, List.getElem_cons_succ, List.getElem_cons_zero, List.setIfInBounds_toArray, List.set_cons_zero, List.set_cons_succ]
      refine wpAnyH_take (i := 11) (v := ?_) rfl (by kernel_rfl) (by kernel_rfl) (by kernel_rfl) (fun _ _ _ h => h) (Or.inl ⟨by rfl, ?_⟩) (by assumption) ?_
      rotate_left
      · intro w hSw; obtain ⟨k0, k1, k2, k3, k4, k5, k6, k7⟩ := hSw.out.1; obtain ⟨j0, j1, j2, j3, j4, j5, j6, j7⟩ := hSw.out.2.1; go_simp; try with_reducible rfl
      try simp only [Act.put, List.getElem_toArray, List.getElem_cons_succ, List.getElem_cons_zero, List.setIfInBounds_toArray, List.set_cons_zero, List.set_cons_succ]
      refine wpAnyH_take (i := 12) (v := ?_) rfl (by kernel_rfl) (by kernel_rfl) (by kernel_rfl) (fun _ _ _ h => h) (Or.inl ⟨by rfl, ?_⟩) (by assumption) ?_
      rotate_left
      · intro w hSw; obtain ⟨k0, k1, k2, k3, k4, k5, k6, k7⟩ := hSw.out.1; obtain ⟨j0, j1, j2, j3, j4, j5, j6, j7⟩ := hSw.out.2.1; go_simp; try with_reducible rfl
      try simp only [Act.put, List.getElem_toArray, List.getElem_cons_succ, List.getElem_cons_zero, List.setIfInBounds_toArray, List.set_cons_zero, List.set_cons_succ]
      refine wpAnyH_take (i := 13) (v := ?_) rfl (by kernel_rfl) (by kernel_rfl) (by kernel_rfl) (fun _ _ _ h => h) (Or.inl ⟨by rfl, ?_⟩) (by assumption) ?_
      rotate_left
      · intro w hSw; obtain ⟨k0, k1, k2, k3, k4, k5, k6, k7⟩ := hSw.out.1; obtain ⟨j0, j1, j2, j3, j4, j5, j6, j7⟩ := hSw.out.2.1; go_simp; try with_reducible rfl
      try simp only [Act.put, List.getElem_toArray, List.getElem_cons_succ, List.getElem_cons_zero, List.setIfInBounds_toArray, List.set_cons_zero, List.set_cons_succ]
      refine wpAnyH_take (i := 14) (v := ?_) rfl (by kernel_rfl) (by kernel_rfl) (by kernel_rfl) (fun _ _ _ h => h) (Or.inl ⟨by rfl, ?_⟩) (by assumption) ?_
      rotate_left
      · intro w hSw; obtain ⟨k0, k1, k2, k3, k4, k5, k6, k7⟩ := hSw.out.1; obtain ⟨j0, j1, j2, j3, j4, j5, j6, j7⟩ := hSw.out.2.1; go_simp; try with_reducible rfl
      try simp only [Act.put, List.getElem_toArray, List.getElem_cons_succ, List.getElem_cons_zero, List.setIfInBounds_toArray, List.set_cons_zero, List.set_cons_succ]
      refine wpAnyH_take (i := 15) (v := ?_) rfl (by kernel_rfl) (by kernel_rfl) (by kernel_rfl) (fun _ _ _ h => h) (Or.inl ⟨by rfl, ?_⟩) (by assumption) ?_
      rotate_left
      · intro w hSw; obtain ⟨k0, k1, k2, k3, k4, k5, k6, k7⟩ := hSw.out.1; obtain ⟨j0, j1, j2, j3, j4, j5, j6, j7⟩ := hSw.out.2.1; go_simp; try with_reducible rfl
      try simp only [Act.put, List.getElem_toArray, List.getElem_cons_succ, List.getElem_cons_zero, List.setIfInBounds_toArray, List.set_cons_zero, List.set_cons_succ]
      refine wpAnyH_take (i := 16) (v := ?_) rfl (by kernel_rfl) (by kernel_rfl) (by kernel_rfl) (fun _ _ _ h => h) (Or.inl ⟨by rfl, ?_⟩) (by assumption) ?_
      rotate_left
      · intro w hSw; obtain ⟨k0, k1, k2, k3, k4, k5, k6, k7⟩ := hSw.out.1; obtain ⟨j0, j1, j2, j3, j4, j5, j6, j7⟩ := hSw.out.2.1; go_simp; try with_reducible rfl
      try simp only [Act.put, List.getElem_toArray, List.getElem_cons_succ, List.getElem_cons_zero, List.setIfInBounds_toArray, List.set_cons_zero, List.set_cons_succ]
      refine wpAnyH_take (i := 17) (v := ?_) rfl (by kernel_rfl) (by kernel_rfl) (by kernel_rfl) (fun _ _ _ h => h) (Or.inl ⟨by rfl, ?_⟩) (by assumption) ?_
      rotate_left
      · intro w hSw; obtain ⟨k0, k1, k2, k3, k4, k5, k6, k7⟩ := hSw.out.1; obtain ⟨j0, j1, j2, j3, j4, j5, j6, j7⟩ := hSw.out.2.1; go_simp; try with_reducible rfl
      try simp only [Act.put, List.getElem_toArray, List.getElem_cons_succ, List.getElem_cons_zero, List.setIfInBounds_toArray, List.set_cons_zero, List.set_cons_succ]
      refine wpAnyH_take (i := 18) (v := ?_) rfl (by kernel_rfl) (by kernel_rfl) (by kernel_rfl) (fun _ _ _ h => h) (Or.inl ⟨by rfl, ?_⟩) (by assumption) ?_
      rotate_left
      · intro w hSw; obtain ⟨k0, k1, k2, k3, k4, k5, k6, k7⟩ := hSw.out.1; obtain ⟨j0, j1, j2, j3, j4, j5, j6, j7⟩ := hSw.out.2.1; go_simp; try with_reducible rfl
      try simp only [Act.put, List.getElem_toArray, List.getElem_cons_succ, List.getElem_cons_zero, List.setIfInBounds_toArray, List.set_cons_zero, List.set_cons_succ]
      refine wpAnyH_take (i := 19) (v := ?_) rfl (by kernel_rfl) (by kernel_rfl) (by kernel_rfl) (fun _ _ _ h => h) (Or.inl ⟨by rfl, ?_⟩) (by assumption) ?_
      rotate_left
      · intro w hSw; obtain ⟨k0, k1, k2, k3, k4, k5, k6, k7⟩ := hSw.out.1; obtain ⟨j0, j1, j2, j3, j4, j5, j6, j7⟩ := hSw.out.2.1; go_simp; try with_reducible rfl
      try simp only [Act.put, List.getElem_toArray, List.getElem_cons_succ, List.getElem_cons_zero, List.setIfInBounds_toArray, List.set_cons_zero, List.set_cons_succ]
      refine wpAnyH_take (i := 20) (v := ?_) rfl (by kernel_rfl) (by kernel_rfl) (by kernel_rfl) (fun _ _ _ h => h) (Or.inl ⟨by rfl, ?_⟩) (by assumption) ?_
      rotate_left
      · intro w hSw; obtain ⟨k0, k1, k2, k3, k4, k5, k6, k7⟩ := hSw.out.1; obtain ⟨j0, j1, j2, j3, j4, j5, j6, j7⟩ := hSw.out.2.1; go_simp; try with_reducible rfl
      try simp only [Act.put, List.getElem_toArray, List.getElem_cons_succ, List.getElem_cons_zero, List.setIfInBounds_toArray, List.set_cons_zero, List.set_cons_succ]
      refine wpAnyH_take (i := 21) (v := ?_) rfl (by kernel_rfl) (by kernel_rfl) (by kernel_rfl) (fun _ _ _ h => h) (Or.inl ⟨by rfl, ?_⟩) (by assumption) ?_
      rotate_left
      · intro w hSw; obtain ⟨k0, k1, k2, k3, k4, k5, k6, k7⟩ := hSw.out.1; obtain ⟨j0, j1, j2, j3, j4, j5, j6, j7⟩ := hSw.out.2.1; go_simp; try with_reducible rfl
      try simp only [Act.put, List.getElem_toArray, List.getElem_cons_succ, List.getElem_cons_zero, List.setIfInBounds_toArray, List.set_cons_zero, List.set_cons_succ]
      refine wpAnyH_ready (rs := [22]) (by kernel_rfl) (by simp) ?_
      refine AllReadyH.cons rfl (fun K hK => ?_) AllReadyH.nil
      go_simp
      refine (rsamep_yes a1 n1 c1 a2 n2 c2 b1 m1 d1 b2 m2 d2 p wd (Q1.out.same HSO.out) (Q2.out.same HSO.out) (R1.out.same HSO.out) (R2.out.same HSO.out)).mono ?_
      rintro e wx ⟨rfl, hs⟩
      have hH2 := Lib.hid (And.intro (hHeld.out.1.same hs) (And.intro (hHeld.out.2.1.same hs) (hHeld.out.2.2.trans hs)))
      clear hs hHeld
      go_wp2_with fail
      refine hK.out _ _ ?_ (fun hHeld => ?_)
      · exact hH2
      clear hK K
      try simp only [Act.put, List.getElem_toArray, List.getElem_cons_succ, List.getElem_cons_zero, List.setIfInBounds_toArray, List.set_cons_zero, List.set_cons_succ]
      clear hH2
      refine wpAnyH_take (i := 23) (v := ?_) rfl (by kernel_rfl) (by kernel_rfl) (by kernel_rfl) (fun _ _ _ h => h) (Or.inl ⟨by rfl, ?_⟩) (by assumption) ?_
      rotate_left
      · intro w hSw; obtain ⟨k0, k1, k2, k3, k4, k5, k6, k7⟩ := hSw.out.1; obtain ⟨j0, j1, j2, j3, j4, j5, j6, j7⟩ := hSw.out.2.1; go_simp; try with_reducible rfl
      try simp only [Act.put, List.getElem_toArray, List.getElem_cons_succ, List.getElem_cons_zero, List.setIfInBounds_toArray, List.set_cons_zero, List.set_cons_succ]
      refine wpAnyH_take (i := 24) (v := ?_) rfl (by kernel_rfl) (by kernel_rfl) (by kernel_rfl) (fun _ _ _ h => h) (Or.inl ⟨by rfl, ?_⟩) (by assumption) ?_
      rotate_left
      · intro w hSw; obtain ⟨k0, k1, k2, k3, k4, k5, k6, k7⟩ := hSw.out.1; obtain ⟨j0, j1, j2, j3, j4, j5, j6, j7⟩ := hSw.out.2.1; go_simp; try with_reducible rfl
      try simp only [Act.put, List.getElem_toArray, List.getElem_cons_succ, List.getElem_cons_zero, List.setIfInBounds_toArray, List.set_cons_zero, List.set_cons_succ]
      refine wpAnyH_done (by kernel_rfl) ?_ _
      have HF := Lib.hid (hD.out.trans (HSO.out.trans hHeld.out.2.2))
      clear hHeld
      go_wp2_with fail
      go_roundw
      case rel => exact ⟨i + 1, by go_num, by omega, HF⟩
      case measure => simp [intOf]; omega
    · obtain rfl : i = m := by omega
      go_wp2_with fail
      go_ret
      exact ⟨rfl, hD.out⟩
set_option maxHeartbeats 1600000 in
theorem rsameb_yes (a b : Option Addr) (n m ca cb : Nat) (bs : List (List Int)) (w : World) (hx : BoxesAt w a n bs) (hy : BoxesAt w b m bs) :
    Calls Try.prog 44 #[.slice a n ca, .slice b m cb] w fun z w' => z = .returned (.bool true) ∧ Same w w' := by
  have HX := Lib.hid hx
  have HY := Lib.hid hy
  have hnm : m = n := hy.len.symm.trans hx.len
  have hsx := hx.small
  clear hx hy
  subst hnm
  have d0 : ((m : Int) != m) = false := by simp
  go_enter Try.func44, Try.ntmps44
  go_wp2_with fail
  go_loopw [5] (fun s5 wr => ∃ i : Nat, s5 = .int .i64 i ∧ i ≤ m ∧ Hid (Same w wr)) (fun s5 _ => m - (intOf s5).toNat)
  case atStart => exact ⟨0, rfl, by omega, Lib.hid (Same.refl _)⟩
  case round =>
    obtain ⟨i, rfl, hi, hD⟩ := hrel
    obtain ⟨wo, rfl⟩ : ∃ wz, wz = wr := ⟨_, rfl⟩
    by_cases hlt : i < m
    · have hi0 : (0 : Int) ≤ i := by omega
      have hi1 : (i : Int) < m := by omega
      obtain ⟨bk, off, x0, x1, x2, x3, x4, x5, rfl, e1, hu, hc⟩ := (HX.out.same hD.out).it i hlt
      obtain ⟨bj, oft, y0, y1, y2, y3, y4, y5, rfl, f1, hv, hd⟩ := (HY.out.same hD.out).it i hlt
      obtain ⟨rfl, rfl, rfl, rfl, rfl, rfl⟩ := cons6 (e1.symm.trans f1)
      have hA : BtAt wo bk (off + i * 6) x0 x1 x2 x3 x4 x5 := ⟨hc 0 (by omega), hc 1 (by omega), hc 2 (by omega), hc 3 (by omega), hc 4 (by omega), hc 5 (by omega)⟩
      have hB : BtAt wo bj (oft + i * 6) x0 x1 x2 x3 x4 x5 := ⟨hd 0 (by omega), hd 1 (by omega), hd 2 (by omega), hd 3 (by omega), hd 4 (by omega), hd 5 (by omega)⟩
      have HSO := Lib.hid (show Same wo wo.drew from drew_same _)
      obtain ⟨wd, ewd⟩ : ∃ wd, wo.drew = wd := ⟨_, rfl⟩
      have hsd : Same wo wd := by rw [← ewd]; exact drew_same _
      have HSD := Lib.hid (hD.out.trans hsd)
      have HC := Lib.hid (And.intro (hA.same hsd) (And.intro (hB.same hsd) (Same.refl wd)))
      have EWD := Lib.hid ewd
      have hbs := box_self x0 x1 x2 x3 x4 x5
      rw [ewd] at HSO
      clear hu hv hc hd e1 f1 hA hB
      clear ewd hsd
      go_upto_region 6 with fail
      refine wp_region_held_drew (S := fun w' => Hid (BtAt w' bk (off + i * 6) x0 x1 x2 x3 x4 x5 ∧ BtAt w' bj (oft + i * 6) x0 x1 x2 x3 x4 x5 ∧ Same wd w')) (by kernel_rfl) (by rw [EWD.out]; exact HC) (fun hHeld => ?_)
      rw [EWD.out] at hHeld ⊢
      refine wpAnyH_take (i := 0) (v := ?_) rfl (by kernel_rfl) (by kernel_rfl) (by kernel_rfl) (fun _ _ _ h => h) (Or.inl ⟨by rfl, ?_⟩) (by assumption) ?_
      rotate_left
      · intro w hSw; obtain ⟨k0, k1, k2, k3, k4, k5⟩ := hSw.out.1; obtain ⟨j0, j1, j2, j3, j4, j5⟩ := hSw.out.2.1; go_simp; try with_reducible rfl
      try simp only [Act.put, List.getElem_toArray, List.getElem_cons_succ, List.getElem_cons_zero, List.setIfInBounds_toArray, List.set_cons_zero, List.set_cons_succ]
      refine wpAnyH_take (i := 1) (v := ?_) rfl (by kernel_rfl) (by kernel_rfl) (by kernel_rfl) (fun _ _ _ h => h) (Or.inl ⟨by rfl, ?_⟩) (by assumption) ?_
      rotate_left
      · intro w hSw; obtain ⟨k0, k1, k2, k3, k4, k5⟩ := hSw.out.1; obtain ⟨j0, j1, j2, j3, j4, j5⟩ := hSw.out.2.1; go_simp; try with_reducible rfl
      try simp only [Act.put, List.getElem_toArray, List.getElem_cons_succ, List.getElem_cons_zero, List.setIfInBounds_toArray, List.set_cons_zero, List.set_cons_succ]
      refine wpAnyH_take (i := 2) (v := ?_) rfl (by kernel_rfl) (by kernel_rfl) (by kernel_rfl) (fun _ _ _ h => h) (Or.inl ⟨by rfl, ?_⟩) (by assumption) ?_
      rotate_left
      · intro w hSw; obtain ⟨k0, k1, k2, k3, k4, k5⟩ := hSw.out.1; obtain ⟨j0, j1, j2, j3, j4, j5⟩ := hSw.out.2.1; go_simp; try with_reducible rfl
      try simp only [Act.put, List.getElem_toArray, List.getElem_cons_succ, List.getElem_cons_zero, List.setIfInBounds_toArray, List.set_cons_zero, List.set_cons_succ]
      refine wpAnyH_take (i := 3) (v := ?_) rfl (by kernel_rfl) (by kernel_rfl) (by kernel_rfl) (fun _ _ _ h => h) (Or.inl ⟨by rfl, ?_⟩) (by assumption) ?_
      rotate_left
      · intro w hSw; obtain ⟨k0, k1, k2, k3, k4, k5⟩ := hSw.out.1; obtain ⟨j0, j1, j2, j3, j4, j5⟩ := hSw.out.2.1; go_simp; try with_reducible rfl
      try simp only [Act.put, List.getElem_toArray, List.getElem_cons_succ, List.getElem_cons_zero, List.setIfInBounds_toArray, List.set_cons_zero, List.set_cons_succ]
      refine wpAnyH_take (i := 4) (v := ?_) rfl (by kernel_rfl) (by kernel_rfl) (by kernel_rfl) (fun _ _ _ h => h) (Or.inl ⟨by rfl, ?_⟩) (by assumption) ?_
      rotate_left
      · intro w hSw; obtain ⟨k0, k1, k2, k3, k4, k5⟩ := hSw.out.1; obtain ⟨j0, j1, j2, j3, j4, j5⟩ := hSw.out.2.1; go_simp; try with_reducible rfl
      try simp only [Act.put, List.getElem_toArray, List.getElem_cons_succ, List.getElem_cons_zero, List.setIfInBounds_toArray, List.set_cons_zero, List.set_cons_succ]
      refine wpAnyH_take (i := 5) (v := ?_) rfl (by kernel_rfl) (by kernel_rfl) (by kernel_rfl) (fun _ _ _ h => h) (Or.inl ⟨by rfl, ?_⟩) (by assumption) ?_
      rotate_left
      · intro w hSw; obtain ⟨k0, k1, k2, k3, k4, k5⟩ := hSw.out.1; obtain ⟨j0, j1, j2, j3, j4, j5⟩ := hSw.out.2.1; go_simp; try with_reducible rfl
      try simp only [Act.put, List.getElem_toArray, List.getElem_cons_succ, List.getElem_cons_zero, List.setIfInBounds_toArray, List.set_cons_zero, List.set_cons_succ]
      refine wpAnyH_take (i := 6) (v := ?_) rfl (by kernel_rfl) (by kernel_rfl) (by kernel_rfl) (fun _ _ _ h => h) (Or.inl ⟨by rfl, ?_⟩) (by assumption) ?_
      rotate_left
      · intro w hSw; obtain ⟨k0, k1, k2, k3, k4, k5⟩ := hSw.out.1; obtain ⟨j0, j1, j2, j3, j4, j5⟩ := hSw.out.2.1; go_simp; try with_reducible rfl
      try simp only [Act.put, List.getElem_toArray, List.getElem_cons_succ, List.getElem_cons_zero, List.setIfInBounds_toArray, List.set_cons_zero, List.set_cons_succ]
      refine wpAnyH_take (i := 7) (v := ?_) rfl (by kernel_rfl) (by kernel_rfl) (by kernel_rfl) (fun _ _ _ h => h) (Or.inl ⟨by rfl, ?_⟩) (by assumption) ?_
      rotate_left
      · intro w hSw; obtain ⟨k0, k1, k2, k3, k4, k5⟩ := hSw.out.1; obtain ⟨j0, j1, j2, j3, j4, j5⟩ := hSw.out.2.1; go_simp; try with_reducible rfl
      try simp only [Act.put, List.getElem_toArray, List.getElem_cons_succ, List.getElem_cons_zero, List.setIfInBounds_toArray, List.set_cons_zero, List.set_cons_succ]
      refine wpAnyH_take (i := 8) (v := ?_) rfl (by kernel_rfl) (by kernel_rfl) (by kernel_rfl) (fun _ _ _ h => h) (Or.inl ⟨by rfl, ?_⟩) (by assumption) ?_
      rotate_left
      · intro w hSw; obtain ⟨k0, k1, k2, k3, k4, k5⟩ := hSw.out.1; obtain ⟨j0, j1, j2, j3, j4, j5⟩ := hSw.out.2.1; go_simp; try with_reducible rfl
      try simp only [Act.put, List.getElem_toArray, List.getElem_cons_succ, List.getElem_cons_zero, List.setIfInBounds_toArray, List.set_cons_zero, List.set_cons_succ]
      refine wpAnyH_done (by kernel_rfl) ?_ _
      have HF := Lib.hid (hD.out.trans (HSO.out.trans hHeld.out.2.2))
      clear hHeld
      go_wp2_with fail
      go_roundw
      case rel => exact ⟨i + 1, by go_num, by omega, HF⟩
      case measure => simp [intOf]; omega
    · obtain rfl : i = m := by omega
      go_wp2_with fail
      go_ret
      exact ⟨rfl, hD.out⟩
set_option maxHeartbeats 1600000 in
theorem rsamemix_yes (a0 : Option Addr) (n0 c0 : Nat) (a1 : Option Addr) (n1 c1 : Nat) (a2 : Option Addr) (n2 c2 : Nat) (a3 : Option Addr) (n3 c3 : Nat) (a4 : Option Addr) (n4 c4 : Nat) (a5 : Option Addr) (n5 c5 : Nat) (a6 : Option Addr) (n6 c6 : Nat) (b0 : Option Addr) (m0 d0 : Nat) (b1 : Option Addr) (m1 d1 : Nat) (b2 : Option Addr) (m2 d2 : Nat) (b3 : Option Addr) (m3 d3 : Nat) (b4 : Option Addr) (m4 d4 : Nat) (b5 : Option Addr) (m5 d5 : Nat) (b6 : Option Addr) (m6 d6 : Nat) (x : MixD) (w : World) (hx : MixIn w a0 n0 a1 n1 a2 n2 a3 n3 a4 n4 a5 n5 a6 n6 x) (hy : MixIn w b0 m0 b1 m1 b2 m2 b3 m3 b4 m4 b5 m5 b6 m6 x) :
    Calls Try.prog 13 #[.agg #[.slice a0 n0 c0, .slice a1 n1 c1, .slice a2 n2 c2, .slice a3 n3 c3, .slice a4 n4 c4, .slice a5 n5 c5, .slice a6 n6 c6], .agg #[.slice b0 m0 d0, .slice b1 m1 d1, .slice b2 m2 d2, .slice b3 m3 d3, .slice b4 m4 d4, .slice b5 m5 d5, .slice b6 m6 d6]] w fun z w' => z = .returned (.bool true) ∧ Same w w' := by
  have HX := Lib.hid hx
  have HY := Lib.hid hy
  obtain ⟨pb, epb⟩ : ∃ pb, w.heap.size = pb := ⟨_, rfl⟩
  obtain ⟨w0, ew0⟩ : ∃ w0, (w.alloc (.cells #[.slice a0 n0 c0, .slice a1 n1 c1, .slice a2 n2 c2, .slice a3 n3 c3, .slice a4 n4 c4, .slice a5 n5 c5, .slice a6 n6 c6] 30)).alloc (.cells #[.slice b0 m0 d0, .slice b1 m1 d1, .slice b2 m2 d2, .slice b3 m3 d3, .slice b4 m4 d4, .slice b5 m5 d5, .slice b6 m6 d6] 30) = w0 := ⟨_, rfl⟩
  have hsz : (w.alloc (.cells #[.slice a0 n0 c0, .slice a1 n1 c1, .slice a2 n2 c2, .slice a3 n3 c3, .slice a4 n4 c4, .slice a5 n5 c5, .slice a6 n6 c6] 30)).heap.size = pb + 1 := by rw [← epb]; simp
  have HS0 := Lib.hid (show Same w w0 by rw [← ew0]; exact ((Same.refl w).alloc _).alloc _)
  have HB1 := Lib.hid (show w0.heap[pb]? = some (.cells #[.slice a0 n0 c0, .slice a1 n1 c1, .slice a2 n2 c2, .slice a3 n3 c3, .slice a4 n4 c4, .slice a5 n5 c5, .slice a6 n6 c6] 30 (0, 0)) by rw [← ew0, ← epb]; exact ((Same.refl _).alloc _).keep (heap_new _ _))
  have HB2 := Lib.hid (show w0.heap[pb + 1]? = some (.cells #[.slice b0 m0 d0, .slice b1 m1 d1, .slice b2 m2 d2, .slice b3 m3 d3, .slice b4 m4 d4, .slice b5 m5 d5, .slice b6 m6 d6] 30 (0, 0)) by rw [← ew0, ← hsz]; exact heap_new _ _)
  have EW0 := Lib.hid ew0
  have EPB := Lib.hid epb
  clear hx hy epb ew0 hsz
  go_enter Try.func13, Try.ntmps13
  go_upto_region 1 with fail
  rw [EW0.out, EPB.out]
  have HS0W0 := Lib.hid (Same.refl w0)
  obtain ⟨g0, g1, g2, g3, g4, g5, g6⟩ := mix_cells (HS0W0.out.keep HB1.out)
  obtain ⟨j0, j1, j2, j3, j4, j5, j6⟩ := mix_cells (HS0W0.out.keep HB2.out)
  go_wp2_with fail
  refine (rsamel_yes a0 b0 n0 m0 c0 d0 x.1 w0 (HX.out.o0.same HS0.out) (HY.out.o0.same HS0.out)).mono ?_
  rintro e w1 ⟨rfl, hs⟩
  have HS1 := Lib.hid (HS0.out.trans hs)
  have HS0W1 := Lib.hid (HS0W0.out.trans hs)
  clear hs g0 g1 g2 g3 g4 g5 g6 j0 j1 j2 j3 j4 j5 j6
  obtain ⟨g0, g1, g2, g3, g4, g5, g6⟩ := mix_cells (HS0W1.out.keep HB1.out)
  obtain ⟨j0, j1, j2, j3, j4, j5, j6⟩ := mix_cells (HS0W1.out.keep HB2.out)
  go_wp2_with fail
  refine (rsameb_yes a1 b1 n1 m1 c1 d1 x.2.1 w1 (HX.out.o1.same HS1.out) (HY.out.o1.same HS1.out)).mono ?_
  rintro e w2 ⟨rfl, hs⟩
  have HS2 := Lib.hid (HS1.out.trans hs)
  have HS0W2 := Lib.hid (HS0W1.out.trans hs)
  clear hs g0 g1 g2 g3 g4 g5 g6 j0 j1 j2 j3 j4 j5 j6
  obtain ⟨g0, g1, g2, g3, g4, g5, g6⟩ := mix_cells (HS0W2.out.keep HB1.out)
  obtain ⟨j0, j1, j2, j3, j4, j5, j6⟩ := mix_cells (HS0W2.out.keep HB2.out)
  go_wp2_with fail
  refine (rsame_yes a2 b2 n2 m2 c2 d2 x.2.2.1 w2 (HX.out.o2.same HS2.out) (HY.out.o2.same HS2.out)).mono ?_
  rintro e w3 ⟨rfl, hs⟩
  have HS3 := Lib.hid (HS2.out.trans hs)
  have HS0W3 := Lib.hid (HS0W2.out.trans hs)
  clear hs g0 g1 g2 g3 g4 g5 g6 j0 j1 j2 j3 j4 j5 j6
  obtain ⟨g0, g1, g2, g3, g4, g5, g6⟩ := mix_cells (HS0W3.out.keep HB1.out)
  obtain ⟨j0, j1, j2, j3, j4, j5, j6⟩ := mix_cells (HS0W3.out.keep HB2.out)
  go_wp2_with fail
  refine (rsame_yes a3 b3 n3 m3 c3 d3 x.2.2.2.1 w3 (HX.out.o3.same HS3.out) (HY.out.o3.same HS3.out)).mono ?_
  rintro e w4 ⟨rfl, hs⟩
  have HS4 := Lib.hid (HS3.out.trans hs)
  have HS0W4 := Lib.hid (HS0W3.out.trans hs)
  clear hs g0 g1 g2 g3 g4 g5 g6 j0 j1 j2 j3 j4 j5 j6
  obtain ⟨g0, g1, g2, g3, g4, g5, g6⟩ := mix_cells (HS0W4.out.keep HB1.out)
  obtain ⟨j0, j1, j2, j3, j4, j5, j6⟩ := mix_cells (HS0W4.out.keep HB2.out)
  go_wp2_with fail
  refine (rsame_yes a4 b4 n4 m4 c4 d4 x.2.2.2.2.1 w4 (HX.out.o4.same HS4.out) (HY.out.o4.same HS4.out)).mono ?_
  rintro e w5 ⟨rfl, hs⟩
  have HS5 := Lib.hid (HS4.out.trans hs)
  have HS0W5 := Lib.hid (HS0W4.out.trans hs)
  clear hs g0 g1 g2 g3 g4 g5 g6 j0 j1 j2 j3 j4 j5 j6
  obtain ⟨g0, g1, g2, g3, g4, g5, g6⟩ := mix_cells (HS0W5.out.keep HB1.out)
  obtain ⟨j0, j1, j2, j3, j4, j5, j6⟩ := mix_cells (HS0W5.out.keep HB2.out)
  go_wp2_with fail
  refine (rsamep_yes a5 n5 c5 a6 n6 c6 b5 m5 d5 b6 m6 d6 x.2.2.2.2.2 w5 (HX.out.o5.same HS5.out) (HX.out.o6.same HS5.out) (HY.out.o5.same HS5.out) (HY.out.o6.same HS5.out)).mono ?_
  rintro e w6 ⟨rfl, hs⟩
  have HS6 := Lib.hid (HS5.out.trans hs)
  have HS0W6 := Lib.hid (HS0W5.out.trans hs)
  clear hs g0 g1 g2 g3 g4 g5 g6 j0 j1 j2 j3 j4 j5 j6
  go_wp2_with fail
  go_ret
  exact ⟨rfl, HS6.out⟩
end Go.Proofs.Ytdbhcdhenapfoaa
