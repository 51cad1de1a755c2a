/- gamal.Cross: one secret's part off, another key's on. -/
import Derived.Test.YtfoncfojljmimaaW5
import Derived.Deep.RegionHeld3
set_option linter.unusedVariables false
set_option linter.unusedSimpArgs false
namespace Go.Proofs.Ytfoncfojljmimaa
open Go.RowKit NT
theorem three_some {w : World} {b : Nat} (h : ∃ u x v, ThreeAt w b u x v) (p : Addr) (y : Value) : ∃ u x v, ThreeAt (w.setCell p y) b u x v := by
  obtain ⟨u, x, v, h⟩ := h
  obtain ⟨u1, e1⟩ := Go.RowKit.cell?_setCell_some (p := p) (x := y) h.u
  obtain ⟨x1, e2⟩ := Go.RowKit.cell?_setCell_some (p := p) (x := y) h.x
  obtain ⟨v1, e3⟩ := Go.RowKit.cell?_setCell_some (p := p) (x := y) h.v
  exact ⟨u1, x1, v1, ⟨e1, e2, e3, by simp [h.fu], by simp [h.fx], by simp [h.fv]⟩⟩
/-- the box, a three in its own, and a three of some worth -/
abbrev CrossS (W0 : World) (bx tx rx : Nat) (P Q G H : Int) (ra : Option Addr) (rn rc : Nat) (tu tw tv : Int) (w : World) : Prop :=
  w.cell? ⟨tx, 0, none⟩ = some (.int .u64 tu) ∧ w.cell? ⟨tx, 1, none⟩ = some (.int .u64 tw) ∧ w.cell? ⟨tx, 2, none⟩ = some (.int .u64 tv) ∧ (∃ u x v, ThreeAt w rx u x v) ∧ BoxS W0 bx P Q G H ra rn rc w
theorem CrossS.same {W0 w w' : World} {bx tx rx : Nat} {P Q G H : Int} {ra : Option Addr} {rn rc : Nat} {tu tw tv : Int} (h : CrossS W0 bx tx rx P Q G H ra rn rc tu tw tv w) (hs : Same w w') : CrossS W0 bx tx rx P Q G H ra rn rc tu tw tv w' :=
  ⟨same_cell hs h.1, same_cell hs h.2.1, same_cell hs h.2.2.1, by obtain ⟨u, x, v, k⟩ := h.2.2.2.1; exact ⟨u, x, v, k.same hs⟩, h.2.2.2.2.same hs⟩
theorem CrossS.set {W0 w : World} {bx tx rx : Nat} {P Q G H : Int} {ra : Option Addr} {rn rc : Nat} {tu tw tv : Int} (h : CrossS W0 bx tx rx P Q G H ra rn rc tu tw tv w) {b o : Nat} (hb : b ≠ bx) (ht : b ≠ tx) (hg : W0.heap.size ≤ b) (x : Value) : CrossS W0 bx tx rx P Q G H ra rn rc tu tw tv (w.setCell ⟨b, o, none⟩ x) :=
  ⟨(World.cell?_setCell_far _ _ _ _ ht).trans h.1, (World.cell?_setCell_far _ _ _ _ ht).trans h.2.1, (World.cell?_setCell_far _ _ _ _ ht).trans h.2.2.1, three_some h.2.2.2.1 _ _, h.2.2.2.2.set hb hg x⟩
abbrev CrossD (W0 : World) (bx tx rx dx : Nat) (P Q G H : Int) (ra : Option Addr) (rn rc : Nat) (tu tw tv du dv : Int) (w : World) : Prop :=
  w.cell? ⟨dx, 0, none⟩ = some (.int .u64 du) ∧ w.cell? ⟨dx, 1, none⟩ = some (.int .u64 dv) ∧ CrossS W0 bx tx rx P Q G H ra rn rc tu tw tv w
theorem CrossD.same {W0 w w' : World} {bx tx rx dx : Nat} {P Q G H : Int} {ra : Option Addr} {rn rc : Nat} {tu tw tv du dv : Int} (h : CrossD W0 bx tx rx dx P Q G H ra rn rc tu tw tv du dv w) (hs : Same w w') : CrossD W0 bx tx rx dx P Q G H ra rn rc tu tw tv du dv w' :=
  ⟨same_cell hs h.1, same_cell hs h.2.1, h.2.2.same hs⟩
theorem CrossD.set {W0 w : World} {bx tx rx dx : Nat} {P Q G H : Int} {ra : Option Addr} {rn rc : Nat} {tu tw tv du dv : Int} (h : CrossD W0 bx tx rx dx P Q G H ra rn rc tu tw tv du dv w) {b o : Nat} (hd : b ≠ dx) (hb : b ≠ bx) (ht : b ≠ tx) (hg : W0.heap.size ≤ b) (x : Value) : CrossD W0 bx tx rx dx P Q G H ra rn rc tu tw tv du dv (w.setCell ⟨b, o, none⟩ x) :=
  ⟨(World.cell?_setCell_far _ _ _ _ hd).trans h.1, (World.cell?_setCell_far _ _ _ _ hd).trans h.2.1, h.2.2.set hb ht hg x⟩
/-- A group, a three in their boxes, and an empty three behind them. -/
theorem par_cross (w : World) (P Q G H : Int) (ra : Option Addr) (rn rc : Nat) (tu tw tv : Int) : ∃ W bx tx rx, ((w.alloc (.cells #[.int .u64 P, .int .u64 Q, .int .u64 G, .int .u64 H, .slice ra rn rc] 25)).alloc (.cells #[.int .u64 tu, .int .u64 tw, .int .u64 tv] 49)).alloc (.cells #[.int .u64 0, .int .u64 0, .int .u64 0] 49) = W ∧ w.heap.size = bx ∧ bx + 1 = tx ∧ tx + 1 = rx ∧ W.heap.size = rx + 1 ∧
    CrossS w bx tx rx P Q G H ra rn rc tu tw tv W := by
  obtain ⟨W1, bx, e1, e2, hS, c0, c1, c2, c3, c4⟩ := par_box w P Q G H (.slice ra rn rc)
  have hz : W1.heap.size = bx + 1 := by rw [← e1, ← e2]; simp
  obtain ⟨W2, e3⟩ : ∃ W2, W1.alloc (.cells #[.int .u64 tu, .int .u64 tw, .int .u64 tv] 49) = W2 := ⟨_, rfl⟩
  have hS1 : Same W1 W2 := by rw [← e3]; exact (Same.refl W1).alloc _
  have hp1 := ThreeAt.new W1 49 (.int .u64 tu) (.int .u64 tw) (.int .u64 tv)
  rw [e3, hz] at hp1
  have hz2 : W2.heap.size = bx + 1 + 1 := by rw [← e3, ← hz]; simp
  have hS2 : Same W2 (W2.alloc (.cells #[.int .u64 0, .int .u64 0, .int .u64 0] 49)) := (Same.refl W2).alloc _
  have hp2 := ThreeAt.new W2 49 (.int .u64 0) (.int .u64 0) (.int .u64 0)
  rw [hz2] at hp2
  have hS3 := hS1.trans hS2
  have hp3 := hp1.same hS2
  exact ⟨_, bx, bx + 1, bx + 1 + 1, by rw [e1, e3], e2, rfl, rfl, by simp [hz2], hp3.u, hp3.x, hp3.v, ⟨_, _, _, hp2⟩, same_cell hS3 c0, same_cell hS3 c1, same_cell hS3 c2, same_cell hS3 c3, same_cell hS3 c4, hS.trans hS3⟩
set_option maxHeartbeats 6400000 in
theorem cross_any (P Q G H : Int) (ra : Option Addr) (rn rc : Nat) (x y tu tw tv r : Int) (P0 : 0 ≤ P) (Q0 : 0 ≤ Q) (Q1 : Q < 18446744073709551616) (G0 : 0 ≤ G) (x0 : 0 ≤ x) (x1 : x < 18446744073709551616) (y0 : 0 ≤ y) (u0 : 0 ≤ tu) (hw : U64 tw) (hv : U64 tv) (r0 : 0 ≤ r) (r1 : r < 18446744073709551616) (w : World) :
    Calls Try.prog 23 #[.agg #[.int .u64 P, .int .u64 Q, .int .u64 G, .int .u64 H, .slice ra rn rc], .int .u64 x, .int .u64 y, .agg #[.int .u64 tu, .int .u64 tw, .int .u64 tv], .int .u64 r] w fun z w' => z = .returned (.agg #[.int .u64 tu, .int .u64 (prodI P [expI Q P G r, tw]), .int .u64 (overI P (prodI P [tv, expI Q P y r]) (expI Q P tu x))]) ∧ Same w w' := by
  obtain ⟨W, bx, tx, rx, eW, eb, et, er, es, hB⟩ := par_cross w P Q G H ra rn rc tu tw tv
  have EW := Lib.hid eW
  have EB := Lib.hid eb
  have ET := Lib.hid et
  have ER := Lib.hid er
  have ES := Lib.hid es
  have HB0 := Lib.hid (hB.same (drew_same W))
  clear eW eb et er es hB
  go_enter Try.func23, Try.ntmps23
  go_upto_region 1 with fail
  rw [EW.out, EB.out, ET.out, ER.out]
  go_cut [11] (fun s11 wx => ∃ dx, s11 = .pointer (some ⟨dx, 0, none⟩) ∧ rx ≠ dx ∧ CrossD w bx tx rx dx P Q G H ra rn rc tu tw tv (prodI P [expI Q P G r, tw]) (prodI P [tv, expI Q P y r]) wx)
  case first =>
    refine wp_region_held_drew (S := fun w' => CrossS w bx tx rx P Q G H ra rn rc tu tw tv w') (by kernel_rfl) HB0.out (fun hHeld => ?_)
    obtain ⟨Wd, eWd⟩ : ∃ Wd, W.drew = Wd := ⟨_, rfl⟩
    have ESd := Lib.hid (show Wd.heap.size = W.heap.size by rw [← eWd]; rfl)
    rw [eWd] at hHeld ⊢
    clear eWd
    refine wpAnyH_take (i := 0) (v := ?_) rfl (by kernel_rfl) (by kernel_rfl) (by kernel_rfl) (fun _ _ _ h => h) (Or.inl ⟨by rfl, ?_⟩) (by assumption) ?_
    rotate_left
    · intro w hSw; (try dsimp only at hSw); go_simp; try with_reducible rfl
    try simp only [Act.put, List.getElem_toArray, List.getElem_cons_succ, List.getElem_cons_zero, List.setIfInBounds_toArray, List.set_cons_zero, List.set_cons_succ]
    refine wpAnyH_take (i := 1) (v := ?_) rfl (by kernel_rfl) (by kernel_rfl) (by kernel_rfl) (fun _ _ _ h => h) (Or.inl ⟨by rfl, ?_⟩) (by assumption) ?_
    rotate_left
    · intro w hSw; (try dsimp only at hSw); go_simp; try with_reducible rfl
    try simp only [Act.put, List.getElem_toArray, List.getElem_cons_succ, List.getElem_cons_zero, List.setIfInBounds_toArray, List.set_cons_zero, List.set_cons_succ]
    refine wpAnyH_take (i := 2) (v := ?_) rfl (by kernel_rfl) (by kernel_rfl) (by kernel_rfl) (fun _ _ _ h => h) (Or.inl ⟨by rfl, ?_⟩) (by assumption) ?_
    rotate_left
    · intro w hSw; (try dsimp only at hSw); go_simp; try with_reducible rfl
    try simp only [Act.put, List.getElem_toArray, List.getElem_cons_succ, List.getElem_cons_zero, List.setIfInBounds_toArray, List.set_cons_zero, List.set_cons_succ]
    refine wpAnyH_take (i := 4) (v := ?_) rfl (by kernel_rfl) (by kernel_rfl) (by kernel_rfl) (fun _ _ _ h => h) (Or.inl ⟨by rfl, ?_⟩) (by assumption) ?_
    rotate_left
    · intro w hSw; (try dsimp only at hSw); go_simp; try with_reducible rfl
    try simp only [Act.put, List.getElem_toArray, List.getElem_cons_succ, List.getElem_cons_zero, List.setIfInBounds_toArray, List.set_cons_zero, List.set_cons_succ]
    refine wpAnyH_ready (rs := [3, 6]) (by kernel_rfl) (by simp) ?_
    refine AllReadyH.cons rfl (fun K hK => ?_) (AllReadyH.cons rfl (fun K hK => ?_) AllReadyH.nil)
    · go_simp
      refine (leave_any tu tw tv _).mono ?_
      rintro e1 w1 ⟨rfl, hw1⟩
      go_wp2_with fail
      refine hK.out _ _ ?_ (fun hHeld => ?_)
      · exact CrossS.same (by with_reducible assumption) (by with_reducible assumption)
      clear hK K
      try simp only [Act.put, List.getElem_toArray, List.getElem_cons_succ, List.getElem_cons_zero, List.setIfInBounds_toArray, List.set_cons_zero, List.set_cons_succ]
      refine wpAnyH_ready (rs := [5, 6]) (by kernel_rfl) (by simp) ?_
      refine AllReadyH.cons rfl (fun K hK => ?_) (AllReadyH.cons rfl (fun K hK => ?_) AllReadyH.nil)
      · go_simp
        refine (again_any P Q G H ra rn rc y tw tv r P0 Q0 Q1 G0 y0 hw hv r0 r1 _).mono ?_
        rintro e1 w2 ⟨rfl, hw2⟩
        go_wp2_with fail
        refine hK.out _ _ ?_ (fun hHeld => ?_)
        · exact CrossS.same (by with_reducible assumption) (by with_reducible assumption)
        clear hK K
        try simp only [Act.put, List.getElem_toArray, List.getElem_cons_succ, List.getElem_cons_zero, List.setIfInBounds_toArray, List.set_cons_zero, List.set_cons_succ]
        refine wpAnyH_ready (rs := [6]) (by kernel_rfl) (by simp) ?_
        refine AllReadyH.cons rfl (fun K hK => ?_) AllReadyH.nil
        go_simp
        have hA := (Same.refl w2).alloc (.cells #[.int .u64 0, .int .u64 0] 27)
        have hP := PairAt.new w2 27 (.int .u64 0) (.int .u64 0)
        obtain ⟨wA, eA⟩ : ∃ wA, w2.alloc (.cells #[.int .u64 0, .int .u64 0] 27) = wA := ⟨_, rfl⟩
        obtain ⟨dx, eD⟩ : ∃ dx, w2.heap.size = dx := ⟨_, rfl⟩
        have hDs : rx < dx := by have := ES.out; have := hw1.size; have := hw2.size; have := ESd.out; omega
        rw [eA] at hA hP ⊢
        rw [eD] at hP ⊢
        clear eA eD
        refine hK.out _ _ ?_ (fun hHeld => ?_)
        · exact CrossS.same (by with_reducible assumption) (by with_reducible assumption)
        clear hK K
        try simp only [Act.put, List.getElem_toArray, List.getElem_cons_succ, List.getElem_cons_zero, List.setIfInBounds_toArray, List.set_cons_zero, List.set_cons_succ]
        refine wpAnyH_ready (rs := [7]) (by kernel_rfl) (by simp) ?_
        refine AllReadyH.cons rfl (fun K hK => ?_) AllReadyH.nil
        obtain ⟨d0, d1, d2, d3⟩ := hP
        have hP2 := (PairAt.mk d0 d1 d2 d3).put (.int .u64 (prodI P [expI Q P G r, tw])) (.int .u64 (prodI P [tv, expI Q P y r]))
        go_simp
        have hNE : dx ≠ bx ∧ dx ≠ tx ∧ dx ≠ rx ∧ w.heap.size ≤ dx := by have := EB.out; have := ET.out; have := ER.out; omega
        refine hK.out _ _ ?_ (fun hHeld => ?_)
        · exact (hHeld.set hNE.1 hNE.2.1 hNE.2.2.2 _).set hNE.1 hNE.2.1 hNE.2.2.2 _
        clear hK K
        try simp only [Act.put, List.getElem_toArray, List.getElem_cons_succ, List.getElem_cons_zero, List.setIfInBounds_toArray, List.set_cons_zero, List.set_cons_succ]
        refine wpAnyH_done (by kernel_rfl) ?_ _
        go_wp2_with fail
        go_meet
        exact ⟨dx, rfl, hNE.2.2.1.symm, hP2.u, hP2.v, hHeld⟩
      · go_simp
        have hA := (Same.refl w1).alloc (.cells #[.int .u64 0, .int .u64 0] 27)
        have hP := PairAt.new w1 27 (.int .u64 0) (.int .u64 0)
        obtain ⟨wA, eA⟩ : ∃ wA, w1.alloc (.cells #[.int .u64 0, .int .u64 0] 27) = wA := ⟨_, rfl⟩
        obtain ⟨dx, eD⟩ : ∃ dx, w1.heap.size = dx := ⟨_, rfl⟩
        have hDs : rx < dx := by have := ES.out; have := hw1.size; have := ESd.out; omega
        rw [eA] at hA hP ⊢
        rw [eD] at hP ⊢
        clear eA eD
        refine hK.out _ _ ?_ (fun hHeld => ?_)
        · exact CrossS.same (by with_reducible assumption) (by with_reducible assumption)
        clear hK K
        try simp only [Act.put, List.getElem_toArray, List.getElem_cons_succ, List.getElem_cons_zero, List.setIfInBounds_toArray, List.set_cons_zero, List.set_cons_succ]
        refine wpAnyH_ready (rs := [5]) (by kernel_rfl) (by simp) ?_
        refine AllReadyH.cons rfl (fun K hK => ?_) AllReadyH.nil
        go_simp
        refine (again_any P Q G H ra rn rc y tw tv r P0 Q0 Q1 G0 y0 hw hv r0 r1 _).mono ?_
        rintro e1 w2 ⟨rfl, hw2⟩
        go_wp2_with fail
        refine hK.out _ _ ?_ (fun hHeld => ?_)
        · exact CrossS.same (by with_reducible assumption) (by with_reducible assumption)
        clear hK K
        try simp only [Act.put, List.getElem_toArray, List.getElem_cons_succ, List.getElem_cons_zero, List.setIfInBounds_toArray, List.set_cons_zero, List.set_cons_succ]
        refine wpAnyH_ready (rs := [7]) (by kernel_rfl) (by simp) ?_
        refine AllReadyH.cons rfl (fun K hK => ?_) AllReadyH.nil
        replace hP := hP.same hw2
        obtain ⟨d0, d1, d2, d3⟩ := hP
        have hP2 := (PairAt.mk d0 d1 d2 d3).put (.int .u64 (prodI P [expI Q P G r, tw])) (.int .u64 (prodI P [tv, expI Q P y r]))
        go_simp
        have hNE : dx ≠ bx ∧ dx ≠ tx ∧ dx ≠ rx ∧ w.heap.size ≤ dx := by have := EB.out; have := ET.out; have := ER.out; omega
        refine hK.out _ _ ?_ (fun hHeld => ?_)
        · exact (hHeld.set hNE.1 hNE.2.1 hNE.2.2.2 _).set hNE.1 hNE.2.1 hNE.2.2.2 _
        clear hK K
        try simp only [Act.put, List.getElem_toArray, List.getElem_cons_succ, List.getElem_cons_zero, List.setIfInBounds_toArray, List.set_cons_zero, List.set_cons_succ]
        refine wpAnyH_done (by kernel_rfl) ?_ _
        go_wp2_with fail
        go_meet
        exact ⟨dx, rfl, hNE.2.2.1.symm, hP2.u, hP2.v, hHeld⟩
    · go_simp
      have hA := (Same.refl Wd).alloc (.cells #[.int .u64 0, .int .u64 0] 27)
      have hP := PairAt.new Wd 27 (.int .u64 0) (.int .u64 0)
      obtain ⟨wA, eA⟩ : ∃ wA, Wd.alloc (.cells #[.int .u64 0, .int .u64 0] 27) = wA := ⟨_, rfl⟩
      obtain ⟨dx, eD⟩ : ∃ dx, Wd.heap.size = dx := ⟨_, rfl⟩
      have hDs : rx < dx := by have := ES.out; have := ESd.out; omega
      rw [eA] at hA hP ⊢
      rw [eD] at hP ⊢
      clear eA eD
      refine hK.out _ _ ?_ (fun hHeld => ?_)
      · exact CrossS.same (by with_reducible assumption) (by with_reducible assumption)
      clear hK K
      try simp only [Act.put, List.getElem_toArray, List.getElem_cons_succ, List.getElem_cons_zero, List.setIfInBounds_toArray, List.set_cons_zero, List.set_cons_succ]
      refine wpAnyH_ready (rs := [3]) (by kernel_rfl) (by simp) ?_
      refine AllReadyH.cons rfl (fun K hK => ?_) AllReadyH.nil
      go_simp
      refine (leave_any tu tw tv _).mono ?_
      rintro e1 w1 ⟨rfl, hw1⟩
      go_wp2_with fail
      refine hK.out _ _ ?_ (fun hHeld => ?_)
      · exact CrossS.same (by with_reducible assumption) (by with_reducible assumption)
      clear hK K
      try simp only [Act.put, List.getElem_toArray, List.getElem_cons_succ, List.getElem_cons_zero, List.setIfInBounds_toArray, List.set_cons_zero, List.set_cons_succ]
      refine wpAnyH_ready (rs := [5]) (by kernel_rfl) (by simp) ?_
      refine AllReadyH.cons rfl (fun K hK => ?_) AllReadyH.nil
      go_simp
      refine (again_any P Q G H ra rn rc y tw tv r P0 Q0 Q1 G0 y0 hw hv r0 r1 _).mono ?_
      rintro e1 w2 ⟨rfl, hw2⟩
      go_wp2_with fail
      refine hK.out _ _ ?_ (fun hHeld => ?_)
      · exact CrossS.same (by with_reducible assumption) (by with_reducible assumption)
      clear hK K
      try simp only [Act.put, List.getElem_toArray, List.getElem_cons_succ, List.getElem_cons_zero, List.setIfInBounds_toArray, List.set_cons_zero, List.set_cons_succ]
      refine wpAnyH_ready (rs := [7]) (by kernel_rfl) (by simp) ?_
      refine AllReadyH.cons rfl (fun K hK => ?_) AllReadyH.nil
      replace hP := hP.same hw1
      replace hP := hP.same hw2
      obtain ⟨d0, d1, d2, d3⟩ := hP
      have hP2 := (PairAt.mk d0 d1 d2 d3).put (.int .u64 (prodI P [expI Q P G r, tw])) (.int .u64 (prodI P [tv, expI Q P y r]))
      go_simp
      have hNE : dx ≠ bx ∧ dx ≠ tx ∧ dx ≠ rx ∧ w.heap.size ≤ dx := by have := EB.out; have := ET.out; have := ER.out; omega
      refine hK.out _ _ ?_ (fun hHeld => ?_)
      · exact (hHeld.set hNE.1 hNE.2.1 hNE.2.2.2 _).set hNE.1 hNE.2.1 hNE.2.2.2 _
      clear hK K
      try simp only [Act.put, List.getElem_toArray, List.getElem_cons_succ, List.getElem_cons_zero, List.setIfInBounds_toArray, List.set_cons_zero, List.set_cons_succ]
      refine wpAnyH_done (by kernel_rfl) ?_ _
      go_wp2_with fail
      go_meet
      exact ⟨dx, rfl, hNE.2.2.1.symm, hP2.u, hP2.v, hHeld⟩
  case rest =>
    obtain ⟨dx, e11, hrd, hD⟩ := hcut
    subst e11
    obtain ⟨du, hdu⟩ : ∃ du, prodI P [expI Q P G r, tw] = du := ⟨_, rfl⟩
    obtain ⟨dv, hdv⟩ : ∃ dv, prodI P [tv, expI Q P y r] = dv := ⟨_, rfl⟩
    have HDV := Lib.hid (show 0 ≤ dv by rw [← hdv]; exact (prodI_u _ _).1)
    rw [hdu, hdv] at hD
    have HU1 := Lib.hid hdu
    have HV1 := Lib.hid hdv
    have HNE := Lib.hid (show rx ≠ dx ∧ rx ≠ bx ∧ rx ≠ tx ∧ w.heap.size ≤ rx by have := EB.out; have := ET.out; have := ER.out; omega)
    have HD0 := Lib.hid (hD.same (drew_same wc))
    clear hdu hdv hrd hD
    go_upto_region 2 with fail
    refine wp_region_held_drew (S := fun w' => CrossD w bx tx rx dx P Q G H ra rn rc tu tw tv du dv w') (by kernel_rfl) HD0.out (fun hHeld => ?_)
    refine wpAnyH_take (i := 0) (v := ?_) rfl (by kernel_rfl) (by kernel_rfl) (by kernel_rfl) (fun _ _ _ h => h) (Or.inl ⟨by rfl, ?_⟩) (by assumption) ?_
    rotate_left
    · intro w hSw; (try dsimp only at hSw); go_simp; try with_reducible rfl
    try simp only [Act.put, List.getElem_toArray, List.getElem_cons_succ, List.getElem_cons_zero, List.setIfInBounds_toArray, List.set_cons_zero, List.set_cons_succ]
    refine wpAnyH_take (i := 1) (v := ?_) rfl (by kernel_rfl) (by kernel_rfl) (by kernel_rfl) (fun _ _ _ h => h) (Or.inl ⟨by rfl, ?_⟩) (by assumption) ?_
    rotate_left
    · intro w hSw; (try dsimp only at hSw); go_simp; try with_reducible rfl
    try simp only [Act.put, List.getElem_toArray, List.getElem_cons_succ, List.getElem_cons_zero, List.setIfInBounds_toArray, List.set_cons_zero, List.set_cons_succ]
    refine wpAnyH_take (i := 2) (v := ?_) rfl (by kernel_rfl) (by kernel_rfl) (by kernel_rfl) (fun _ _ _ h => h) (Or.inl ⟨by rfl, ?_⟩) (by assumption) ?_
    rotate_left
    · intro w hSw; (try dsimp only at hSw); go_simp; try with_reducible rfl
    try simp only [Act.put, List.getElem_toArray, List.getElem_cons_succ, List.getElem_cons_zero, List.setIfInBounds_toArray, List.set_cons_zero, List.set_cons_succ]
    refine wpAnyH_take (i := 3) (v := ?_) rfl (by kernel_rfl) (by kernel_rfl) (by kernel_rfl) (fun _ _ _ h => h) (Or.inl ⟨by rfl, ?_⟩) (by assumption) ?_
    rotate_left
    · intro w hSw; (try dsimp only at hSw); go_simp; try with_reducible rfl
    try simp only [Act.put, List.getElem_toArray, List.getElem_cons_succ, List.getElem_cons_zero, List.setIfInBounds_toArray, List.set_cons_zero, List.set_cons_succ]
    refine wpAnyH_take (i := 4) (v := ?_) rfl (by kernel_rfl) (by kernel_rfl) (by kernel_rfl) (fun _ _ _ h => h) (Or.inl ⟨by rfl, ?_⟩) (by assumption) ?_
    rotate_left
    · intro w hSw; (try dsimp only at hSw); go_simp; try with_reducible rfl
    try simp only [Act.put, List.getElem_toArray, List.getElem_cons_succ, List.getElem_cons_zero, List.setIfInBounds_toArray, List.set_cons_zero, List.set_cons_succ]
    refine wpAnyH_take (i := 5) (v := ?_) rfl (by kernel_rfl) (by kernel_rfl) (by kernel_rfl) (fun _ _ _ h => h) (Or.inl ⟨by rfl, ?_⟩) (by assumption) ?_
    rotate_left
    · intro w hSw; (try dsimp only at hSw); go_simp; try with_reducible rfl
    try simp only [Act.put, List.getElem_toArray, List.getElem_cons_succ, List.getElem_cons_zero, List.setIfInBounds_toArray, List.set_cons_zero, List.set_cons_succ]
    refine wpAnyH_take (i := 6) (v := ?_) rfl (by kernel_rfl) (by kernel_rfl) (by kernel_rfl) (fun _ _ _ h => h) (Or.inl ⟨by rfl, ?_⟩) (by assumption) ?_
    rotate_left
    · intro w hSw; (try dsimp only at hSw); go_simp; try with_reducible rfl
    try simp only [Act.put, List.getElem_toArray, List.getElem_cons_succ, List.getElem_cons_zero, List.setIfInBounds_toArray, List.set_cons_zero, List.set_cons_succ]
    refine wpAnyH_take (i := 7) (v := ?_) rfl (by kernel_rfl) (by kernel_rfl) (by kernel_rfl) (fun _ _ _ h => h) (Or.inl ⟨by rfl, ?_⟩) (by assumption) ?_
    rotate_left
    · intro w hSw; (try dsimp only at hSw); go_simp; try with_reducible rfl
    try simp only [Act.put, List.getElem_toArray, List.getElem_cons_succ, List.getElem_cons_zero, List.setIfInBounds_toArray, List.set_cons_zero, List.set_cons_succ]
    refine wpAnyH_take (i := 8) (v := ?_) rfl (by kernel_rfl) (by kernel_rfl) (by kernel_rfl) (fun _ _ _ h => h) (Or.inl ⟨by rfl, ?_⟩) (by assumption) ?_
    rotate_left
    · intro w hSw; (try dsimp only at hSw); go_simp; try with_reducible rfl
    try simp only [Act.put, List.getElem_toArray, List.getElem_cons_succ, List.getElem_cons_zero, List.setIfInBounds_toArray, List.set_cons_zero, List.set_cons_succ]
    refine wpAnyH_take (i := 9) (v := ?_) rfl (by kernel_rfl) (by kernel_rfl) (by kernel_rfl) (fun _ _ _ h => h) (Or.inl ⟨by rfl, ?_⟩) (by assumption) ?_
    rotate_left
    · intro w hSw; (try dsimp only at hSw); go_simp; try with_reducible rfl
    try simp only [Act.put, List.getElem_toArray, List.getElem_cons_succ, List.getElem_cons_zero, List.setIfInBounds_toArray, List.set_cons_zero, List.set_cons_succ]
    refine wpAnyH_take (i := 10) (v := ?_) rfl (by kernel_rfl) (by kernel_rfl) (by kernel_rfl) (fun _ _ _ h => h) (Or.inl ⟨by rfl, ?_⟩) (by assumption) ?_
    rotate_left
    · intro w hSw; (try dsimp only at hSw); go_simp; try with_reducible rfl
    try simp only [Act.put, List.getElem_toArray, List.getElem_cons_succ, List.getElem_cons_zero, List.setIfInBounds_toArray, List.set_cons_zero, List.set_cons_succ]
    refine wpAnyH_ready (rs := [11]) (by kernel_rfl) (by simp) ?_
    refine AllReadyH.cons rfl (fun K hK => ?_) AllReadyH.nil
    go_simp
    refine (exp_any P Q G H ra rn rc tu x P0 Q0 Q1 u0 x0 x1 _).mono ?_
    rintro e1 w1 ⟨rfl, hT1⟩
    go_wp2_with fail
    refine hK.out _ _ ?_ (fun hHeld => ?_)
    · exact CrossD.same (by with_reducible assumption) (by with_reducible assumption)
    clear hK K
    try simp only [Act.put, List.getElem_toArray, List.getElem_cons_succ, List.getElem_cons_zero, List.setIfInBounds_toArray, List.set_cons_zero, List.set_cons_succ]
    refine wpAnyH_ready (rs := [12]) (by kernel_rfl) (by simp) ?_
    refine AllReadyH.cons rfl (fun K hK => ?_) AllReadyH.nil
    go_simp
    refine (over_any P Q G H ra rn rc dv (expI Q P tu x) P0 HDV.out (expI_u _ _ _ _).1 _).mono ?_
    rintro e1 w2 ⟨rfl, hT2⟩
    go_wp2_with fail
    refine hK.out _ _ ?_ (fun hHeld => ?_)
    · exact CrossD.same (by with_reducible assumption) (by with_reducible assumption)
    clear hK K
    try simp only [Act.put, List.getElem_toArray, List.getElem_cons_succ, List.getElem_cons_zero, List.setIfInBounds_toArray, List.set_cons_zero, List.set_cons_succ]
    refine wpAnyH_take (i := 13) (v := ?_) rfl (by kernel_rfl) (by kernel_rfl) (by kernel_rfl) (fun _ _ _ h => h) (Or.inl ⟨by rfl, ?_⟩) (by assumption) ?_
    rotate_left
    · intro w hSw; (try dsimp only at hSw); go_simp; try with_reducible rfl
    try simp only [Act.put, List.getElem_toArray, List.getElem_cons_succ, List.getElem_cons_zero, List.setIfInBounds_toArray, List.set_cons_zero, List.set_cons_succ]
    refine wpAnyH_ready (rs := [14]) (by kernel_rfl) (by simp) ?_
    refine AllReadyH.cons rfl (fun K hK => ?_) AllReadyH.nil
    have hSc := hHeld.2.2.2.2.2.1
    obtain ⟨q0, q1, q2, qt⟩ := hSc
    have HQ := Lib.hid (qt.put (.int .u64 tu) (.int .u64 du) (.int .u64 (overI P dv (expI Q P tu x))))
    obtain ⟨z0, z1, z2, z3, z4, z5⟩ := qt
    go_simp
    refine hK.out _ _ ?_ (fun hHeld => ?_)
    · exact ((hHeld.set HNE.out.1 HNE.out.2.1 HNE.out.2.2.1 HNE.out.2.2.2 _).set HNE.out.1 HNE.out.2.1 HNE.out.2.2.1 HNE.out.2.2.2 _).set HNE.out.1 HNE.out.2.1 HNE.out.2.2.1 HNE.out.2.2.2 _
    clear hK K
    try simp only [Act.put, List.getElem_toArray, List.getElem_cons_succ, List.getElem_cons_zero, List.setIfInBounds_toArray, List.set_cons_zero, List.set_cons_succ]
    refine wpAnyH_done (by kernel_rfl) ?_ _
    have hSc := hHeld.2.2.2.2.2.2.base
    obtain ⟨q0, q1, q2, q3, q4, q5⟩ := HQ.out
    clear z0 z1 z2 z3 z4 z5
    go_wp2_with fail
    refine bodyPost_ret (by simp [results, Try.results23, go_sem, q0, q1, q2]; try rfl) rfl ?_
    exact ⟨by rw [HU1.out, HV1.out], hSc⟩
end Go.Proofs.Ytfoncfojljmimaa
