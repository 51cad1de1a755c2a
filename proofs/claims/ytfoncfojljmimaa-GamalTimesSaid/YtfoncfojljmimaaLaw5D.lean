/- The walk of GamalTimes. -/
import Derived.Test.YtfoncfojljmimaaAwake5
import Derived.Test.YtfoncfojljmimaaW6
import Derived.Test.YtfoncfojljmimaaGamL
set_option linter.unusedVariables false
set_option linter.unusedSimpArgs false
namespace Go.Proofs.Ytfoncfojljmimaa
open Go.RowKit NT
theorem BoxC.base {W0 w : World} {bx cx : Nat} {P Q G H : Int} {ra : Option Addr} {rn rc : Nat} {cu cv : Int} (h : BoxC W0 bx cx P Q G H ra rn rc cu cv w) : Same W0 w := h.2.2.base
theorem ints_four (w : World) (t : TypeId) (a b c d : Int) (ha : U64 a) (hb : U64 b) (hc : U64 c) (hd : U64 d) : IntsAt (w.alloc (.cells #[.int .u64 a, .int .u64 b, .int .u64 c, .int .u64 d] t)) (some ⟨w.heap.size, 0, none⟩) 4 [a, b, c, d] := by
  refine ⟨rfl, by omega, fun _ => ⟨w.heap.size, 0, rfl, fun j hj => ?_⟩, fun j => ?_⟩
  · match j, hj with
    | 0, _ => simp [World.cell?_alloc_new]
    | 1, _ => simp [World.cell?_alloc_new]
    | 2, _ => simp [World.cell?_alloc_new]
    | 3, _ => simp [World.cell?_alloc_new]
  · match j with
    | 0 => exact ha
    | 1 => exact hb
    | 2 => exact hc
    | 3 => exact hd
    | _ + 4 => exact ⟨by simp, by simp⟩
abbrev TX (W0 : World) (gx xx : Nat) (P Q G H : Int) (ra : Option Addr) (rn rc : Nat) (x : Int) (w : World) : Prop :=
  w.cell? ⟨xx, 0, none⟩ = some (.int .u64 x) ∧ BoxS W0 gx P Q G H ra rn rc w
theorem TX.same {W0 w w' : World} {gx xx : Nat} {P Q G H : Int} {ra : Option Addr} {rn rc : Nat} {x : Int} (h : TX W0 gx xx P Q G H ra rn rc x w) (hs : Same w w') : TX W0 gx xx P Q G H ra rn rc x w' :=
  ⟨same_cell hs h.1, BoxS.same h.2 hs⟩
theorem TX.set {W0 w : World} {gx xx : Nat} {P Q G H : Int} {ra : Option Addr} {rn rc : Nat} {x : Int} (h : TX W0 gx xx P Q G H ra rn rc x w) {b o : Nat} (ngx : b ≠ gx) (nxx : b ≠ xx) (hg : W0.heap.size ≤ b) (z : Value) : TX W0 gx xx P Q G H ra rn rc x (w.setCell ⟨b, o, none⟩ z) :=
  ⟨(World.cell?_setCell_far _ _ _ _ nxx).trans h.1, h.2.set ngx hg z⟩
theorem TX.base {W0 w : World} {gx xx : Nat} {P Q G H : Int} {ra : Option Addr} {rn rc : Nat} {x : Int} (h : TX W0 gx xx P Q G H ra rn rc x w) : Same W0 w := h.2.base
abbrev TS (W0 : World) (gx xx lx : Nat) (P Q G H : Int) (ra : Option Addr) (rn rc : Nat) (x au av bu bv : Int) (w : World) : Prop :=
  w.cell? ⟨lx, 0, none⟩ = some (.int .u64 au) ∧ w.cell? ⟨lx, 1, none⟩ = some (.int .u64 av) ∧ w.cell? ⟨lx, 2, none⟩ = some (.int .u64 bu) ∧ w.cell? ⟨lx, 3, none⟩ = some (.int .u64 bv) ∧ TX W0 gx xx P Q G H ra rn rc x w
theorem TS.same {W0 w w' : World} {gx xx lx : Nat} {P Q G H : Int} {ra : Option Addr} {rn rc : Nat} {x au av bu bv : Int} (h : TS W0 gx xx lx P Q G H ra rn rc x au av bu bv w) (hs : Same w w') : TS W0 gx xx lx P Q G H ra rn rc x au av bu bv w' :=
  ⟨same_cell hs h.1, same_cell hs h.2.1, same_cell hs h.2.2.1, same_cell hs h.2.2.2.1, h.2.2.2.2.same hs⟩
theorem TS.set {W0 w : World} {gx xx lx : Nat} {P Q G H : Int} {ra : Option Addr} {rn rc : Nat} {x au av bu bv : Int} (h : TS W0 gx xx lx P Q G H ra rn rc x au av bu bv w) {b o : Nat} (ngx : b ≠ gx) (nxx : b ≠ xx) (nlx : b ≠ lx) (hg : W0.heap.size ≤ b) (z : Value) : TS W0 gx xx lx P Q G H ra rn rc x au av bu bv (w.setCell ⟨b, o, none⟩ z) :=
  ⟨(World.cell?_setCell_far _ _ _ _ nlx).trans h.1, (World.cell?_setCell_far _ _ _ _ nlx).trans h.2.1, (World.cell?_setCell_far _ _ _ _ nlx).trans h.2.2.1, (World.cell?_setCell_far _ _ _ _ nlx).trans h.2.2.2.1, h.2.2.2.2.set ngx nxx hg z⟩
theorem TS.base {W0 w : World} {gx xx lx : Nat} {P Q G H : Int} {ra : Option Addr} {rn rc : Nat} {x au av bu bv : Int} (h : TS W0 gx xx lx P Q G H ra rn rc x au av bu bv w) : Same W0 w := h.2.2.2.2.base
abbrev TD (W0 : World) (gx xx ax bx : Nat) (P Q G H : Int) (ra : Option Addr) (rn rc : Nat) (x au av bu bv : Int) (w : World) : Prop :=
  w.cell? ⟨ax, 0, none⟩ = some (.int .u64 au) ∧ w.cell? ⟨ax, 1, none⟩ = some (.int .u64 av) ∧ w.cell? ⟨bx, 0, none⟩ = some (.int .u64 bu) ∧ w.cell? ⟨bx, 1, none⟩ = some (.int .u64 bv) ∧ TX W0 gx xx P Q G H ra rn rc x w
theorem TD.same {W0 w w' : World} {gx xx ax bx : Nat} {P Q G H : Int} {ra : Option Addr} {rn rc : Nat} {x au av bu bv : Int} (h : TD W0 gx xx ax bx P Q G H ra rn rc x au av bu bv w) (hs : Same w w') : TD W0 gx xx ax bx P Q G H ra rn rc x au av bu bv w' :=
  ⟨same_cell hs h.1, same_cell hs h.2.1, same_cell hs h.2.2.1, same_cell hs h.2.2.2.1, h.2.2.2.2.same hs⟩
theorem TD.set {W0 w : World} {gx xx ax bx : Nat} {P Q G H : Int} {ra : Option Addr} {rn rc : Nat} {x au av bu bv : Int} (h : TD W0 gx xx ax bx P Q G H ra rn rc x au av bu bv w) {b o : Nat} (ngx : b ≠ gx) (nxx : b ≠ xx) (nax : b ≠ ax) (nbx : b ≠ bx) (hg : W0.heap.size ≤ b) (z : Value) : TD W0 gx xx ax bx P Q G H ra rn rc x au av bu bv (w.setCell ⟨b, o, none⟩ z) :=
  ⟨(World.cell?_setCell_far _ _ _ _ nax).trans h.1, (World.cell?_setCell_far _ _ _ _ nax).trans h.2.1, (World.cell?_setCell_far _ _ _ _ nbx).trans h.2.2.1, (World.cell?_setCell_far _ _ _ _ nbx).trans h.2.2.2.1, h.2.2.2.2.set ngx nxx hg z⟩
theorem TD.base {W0 w : World} {gx xx ax bx : Nat} {P Q G H : Int} {ra : Option Addr} {rn rc : Nat} {x au av bu bv : Int} (h : TD W0 gx xx ax bx P Q G H ra rn rc x au av bu bv w) : Same W0 w := h.2.2.2.2.base
abbrev TC (W0 : World) (gx xx ax bx cx : Nat) (P Q G H : Int) (ra : Option Addr) (rn rc : Nat) (x au av bu bv cu cv : Int) (w : World) : Prop :=
  w.cell? ⟨cx, 0, none⟩ = some (.int .u64 cu) ∧ w.cell? ⟨cx, 1, none⟩ = some (.int .u64 cv) ∧ TD W0 gx xx ax bx P Q G H ra rn rc x au av bu bv w
theorem TC.same {W0 w w' : World} {gx xx ax bx cx : Nat} {P Q G H : Int} {ra : Option Addr} {rn rc : Nat} {x au av bu bv cu cv : Int} (h : TC W0 gx xx ax bx cx P Q G H ra rn rc x au av bu bv cu cv w) (hs : Same w w') : TC W0 gx xx ax bx cx P Q G H ra rn rc x au av bu bv cu cv w' :=
  ⟨same_cell hs h.1, same_cell hs h.2.1, h.2.2.same hs⟩
theorem TC.set {W0 w : World} {gx xx ax bx cx : Nat} {P Q G H : Int} {ra : Option Addr} {rn rc : Nat} {x au av bu bv cu cv : Int} (h : TC W0 gx xx ax bx cx P Q G H ra rn rc x au av bu bv cu cv w) {b o : Nat} (ngx : b ≠ gx) (nxx : b ≠ xx) (nax : b ≠ ax) (nbx : b ≠ bx) (ncx : b ≠ cx) (hg : W0.heap.size ≤ b) (z : Value) : TC W0 gx xx ax bx cx P Q G H ra rn rc x au av bu bv cu cv (w.setCell ⟨b, o, none⟩ z) :=
  ⟨(World.cell?_setCell_far _ _ _ _ ncx).trans h.1, (World.cell?_setCell_far _ _ _ _ ncx).trans h.2.1, h.2.2.set ngx nxx nax nbx hg z⟩
theorem TC.base {W0 w : World} {gx xx ax bx cx : Nat} {P Q G H : Int} {ra : Option Addr} {rn rc : Nat} {x au av bu bv cu cv : Int} (h : TC W0 gx xx ax bx cx P Q G H ra rn rc x au av bu bv cu cv w) : Same W0 w := h.2.2.base
abbrev TE (W0 : World) (gx xx cx : Nat) (P Q G H : Int) (ra : Option Addr) (rn rc : Nat) (x cu cv : Int) (w : World) : Prop :=
  w.cell? ⟨cx, 0, none⟩ = some (.int .u64 cu) ∧ w.cell? ⟨cx, 1, none⟩ = some (.int .u64 cv) ∧ TX W0 gx xx P Q G H ra rn rc x w
theorem TE.same {W0 w w' : World} {gx xx cx : Nat} {P Q G H : Int} {ra : Option Addr} {rn rc : Nat} {x cu cv : Int} (h : TE W0 gx xx cx P Q G H ra rn rc x cu cv w) (hs : Same w w') : TE W0 gx xx cx P Q G H ra rn rc x cu cv w' :=
  ⟨same_cell hs h.1, same_cell hs h.2.1, h.2.2.same hs⟩
theorem TE.base {W0 w : World} {gx xx cx : Nat} {P Q G H : Int} {ra : Option Addr} {rn rc : Nat} {x cu cv : Int} (h : TE W0 gx xx cx P Q G H ra rn rc x cu cv w) : Same W0 w := h.2.2.base
theorem topen_any (P Q G H : Int) (ra : Option Addr) (rn rc : Nat) (x cu cv : Int) (gx xx : Nat) (hP : U64 P) (hQ : U64 Q) (hx : U64 x) (hu : U64 cu) (hv : U64 cv) (w : World) (h : TX w gx xx P Q G H ra rn rc x w) :
    Calls Try.prog 12 #[.agg #[.int .u64 cu, .int .u64 cv], .pointer (some ⟨gx, 0, none⟩), .pointer (some ⟨xx, 0, none⟩)] w fun z w' => z = .returned (.int .u64 (openI P Q x cu cv)) ∧ Same w w' := by
  obtain ⟨W, eW⟩ : ∃ W, w.alloc (.cells #[.int .u64 cu, .int .u64 cv] 27) = W := ⟨_, rfl⟩
  obtain ⟨cx, ec⟩ : ∃ cx, w.heap.size = cx := ⟨_, rfl⟩
  have hS : Same w W := by rw [← eW]; exact (Same.refl w).alloc _
  have hp := PairAt.new w 27 (.int .u64 cu) (.int .u64 cv)
  rw [eW, ec] at hp
  have hB0 : TE w gx xx cx P Q G H ra rn rc x cu cv W := ⟨hp.u, hp.v, TX.same h hS⟩
  have EW := Lib.hid eW
  have EC := Lib.hid ec
  have HU := Lib.hid (And.intro hP (And.intro hQ (And.intro hx (And.intro hu hv))))
  clear eW ec hS hp h hP hQ hx hu hv
  go_enter Try.func12, Try.ntmps12
  go_upto_region 1 with fail
  rw [EW.out, EC.out]
  go_region_held3 (fun w' => TE w gx xx cx P Q G H ra rn rc x cu cv w')
    (first
      | (with_reducible refine TE.same (by assumption) (drew_same _))
      | (with_reducible refine TE.same (by assumption) ?_; with_reducible assumption)
      | (with_reducible exact TE.same (by assumption) ((Same.refl _).alloc _))
      | assumption
      | go_keep)
    (first
      | (go_at_call 14; refine (share_any P Q G H ra rn rc x cu cv HU.out.1.1 HU.out.2.1.1 HU.out.2.1.2 HU.out.2.2.2.1.1 HU.out.2.2.1.1 HU.out.2.2.1.2 _).mono ?_; rintro e1 w3 ⟨rfl, hT3⟩)
      | (go_at_call 13; refine (open_any P Q G H ra rn rc cu cv _ 1 1 [expI Q P cu x] HU.out.1.1 HU.out.2.2.2.2.1 _ (ints_one _ _ _ (expI_u _ _ _ _))).mono ?_; rintro e1 w4 ⟨rfl, hT4⟩)
      | fail)
  rename_i hHeld
  go_wp2_with fail
  go_ret
  exact ⟨rfl, hHeld.base⟩
/-- the group, the two pairs, the number, in their boxes -/
theorem par_times (w : World) (P Q G H : Int) (ra : Option Addr) (rn rc : Nat) (x au av bu bv : Int) : ∃ W gx lx xx, ((w.alloc (.cells #[.int .u64 P, .int .u64 Q, .int .u64 G, .int .u64 H, .slice ra rn rc] 25)).alloc (.cells #[.int .u64 au, .int .u64 av, .int .u64 bu, .int .u64 bv] 28)).alloc (.cells #[.int .u64 x] 22) = W ∧ w.heap.size = gx ∧ gx + 1 = lx ∧ lx + 1 = xx ∧
    TS w gx xx lx P Q G H ra rn rc x au av bu bv W := by
  obtain ⟨W1, gx, e1, e2, hS, c0, c1, c2, c3, c4⟩ := par_box w P Q G H (.slice ra rn rc)
  have hz : W1.heap.size = gx + 1 := by rw [← e1, ← e2]; simp
  obtain ⟨W2, e3⟩ : ∃ W2, W1.alloc (.cells #[.int .u64 au, .int .u64 av, .int .u64 bu, .int .u64 bv] 28) = W2 := ⟨_, rfl⟩
  have hS1 : Same W1 W2 := by rw [← e3]; exact (Same.refl W1).alloc _
  have hz2 : W2.heap.size = gx + 1 + 1 := by rw [← e3, ← hz]; simp
  have l0 : W2.cell? ⟨gx + 1, 0, none⟩ = some (.int .u64 au) := by rw [← e3, ← hz]; simp [World.cell?_alloc_new]
  have l1 : W2.cell? ⟨gx + 1, 1, none⟩ = some (.int .u64 av) := by rw [← e3, ← hz]; simp [World.cell?_alloc_new]
  have l2 : W2.cell? ⟨gx + 1, 2, none⟩ = some (.int .u64 bu) := by rw [← e3, ← hz]; simp [World.cell?_alloc_new]
  have l3 : W2.cell? ⟨gx + 1, 3, none⟩ = some (.int .u64 bv) := by rw [← e3, ← hz]; simp [World.cell?_alloc_new]
  have hS2 : Same W2 (W2.alloc (.cells #[.int .u64 x] 22)) := (Same.refl W2).alloc _
  have hS3 := hS1.trans hS2
  exact ⟨_, gx, gx + 1, gx + 1 + 1, by rw [e1, e3], e2, rfl, rfl, same_cell hS2 l0, same_cell hS2 l1, same_cell hS2 l2, same_cell hS2 l3, by rw [← hz2]; simp [World.cell?_alloc_new], same_cell hS3 c0, same_cell hS3 c1, same_cell hS3 c2, same_cell hS3 c3, same_cell hS3 c4, hS.trans hS3⟩
theorem four_of {P Q a b c d : Int} (h : AllE P Q [a, b, c, d]) : InP P Q a ∧ InP P Q b ∧ InP P Q c ∧ InP P Q d := ⟨h a (by simp), h b (by simp), h c (by simp), h d (by simp)⟩
set_option maxHeartbeats 6400000 in
theorem lawTimes (P Q G H : Int) (ra : Option Addr) (rn rc : Nat) (rs : List RowD) (au av bu bv x : Int) (hP : U64 P) (hQ : U64 Q) (hG : U64 G) (hH : U64 H) (hau : U64 au) (hav : U64 av) (hbu : U64 bu) (hbv : U64 bv) (hx : U64 x) (w : World) (h : RowsAt w ra rn rs) :
    Calls Try.prog 3 #[.agg #[.int .u64 P, .int .u64 Q, .int .u64 G, .int .u64 H, .slice ra rn rc], .agg #[.int .u64 au, .int .u64 av, .int .u64 bu, .int .u64 bv], .int .u64 x] w fun e w' => e = .returned (.bool true) ∧ Same w w' := by
  obtain ⟨W, gx, lx, xx, eW, eg, el, ex, hB⟩ := par_times w P Q G H ra rn rc x au av bu bv
  have EW := Lib.hid eW
  have EG := Lib.hid eg
  have EL := Lib.hid el
  have EX := Lib.hid ex
  have H1 := Lib.hid h
  have HU := Lib.hid (And.intro hP (And.intro hQ (And.intro hG hH)))
  have HUl := Lib.hid (And.intro hau (And.intro hav (And.intro hbu hbv)))
  have HX := Lib.hid hx
  clear eW eg el ex h hP hQ hG hH hau hav hbu hbv hx
  go_enter Try.func3, Try.ntmps3
  go_upto_region 1 with fail
  rw [EW.out, EG.out, EL.out, EX.out]
  go_wp2_with fail
  refine (awake5 _).mono ?_
  rintro e1 w1 ⟨rfl, hS1⟩
  replace hB := Lib.hid ((TS.same hB hS1).same (drew_same w1))
  clear hS1
  go_upto_region 3 with fail
  go_cut [7, 8] (fun s7 s8 wx => ∃ ax bx, s7 = .pointer (some ⟨ax, 0, none⟩) ∧ s8 = .pointer (some ⟨bx, 0, none⟩) ∧ TD w gx xx ax bx P Q G H ra rn rc x au av bu bv wx)
  case first =>
    refine wp_region_held_drew (S := fun w' => TS w gx xx lx P Q G H ra rn rc x au av bu bv w') (by kernel_rfl) hB.out (fun hHeld => ?_)
    obtain ⟨Wd, eWd⟩ : ∃ Wd, w1.drew = Wd := ⟨_, rfl⟩
    rw [eWd] at hHeld ⊢
    clear eWd
    refine wpAnyH_take (i := 0) (v := ?_) rfl (by kernel_rfl) (by kernel_rfl) (by kernel_rfl) (fun _ _ _ h => h) (Or.inl ⟨by rfl, ?_⟩) (by assumption) ?_
    rotate_left
    · intro w hSw; (try dsimp only at hSw); go_simp; try with_reducible rfl
    try simp only [Act.put, List.getElem_toArray, List.getElem_cons_succ, List.getElem_cons_zero, List.setIfInBounds_toArray, List.set_cons_zero, List.set_cons_succ]
    refine wpAnyH_take (i := 1) (v := ?_) rfl (by kernel_rfl) (by kernel_rfl) (by kernel_rfl) (fun _ _ _ h => h) (Or.inl ⟨by rfl, ?_⟩) (by assumption) ?_
    rotate_left
    · intro w hSw; (try dsimp only at hSw); go_simp; try with_reducible rfl
    try simp only [Act.put, List.getElem_toArray, List.getElem_cons_succ, List.getElem_cons_zero, List.setIfInBounds_toArray, List.set_cons_zero, List.set_cons_succ]
    refine wpAnyH_take (i := 2) (v := ?_) rfl (by kernel_rfl) (by kernel_rfl) (by kernel_rfl) (fun _ _ _ h => h) (Or.inl ⟨by rfl, ?_⟩) (by assumption) ?_
    rotate_left
    · intro w hSw; (try dsimp only at hSw); go_simp; try with_reducible rfl
    try simp only [Act.put, List.getElem_toArray, List.getElem_cons_succ, List.getElem_cons_zero, List.setIfInBounds_toArray, List.set_cons_zero, List.set_cons_succ]
    refine wpAnyH_take (i := 3) (v := ?_) rfl (by kernel_rfl) (by kernel_rfl) (by kernel_rfl) (fun _ _ _ h => h) (Or.inl ⟨by rfl, ?_⟩) (by assumption) ?_
    rotate_left
    · intro w hSw; (try dsimp only at hSw); go_simp; try with_reducible rfl
    try simp only [Act.put, List.getElem_toArray, List.getElem_cons_succ, List.getElem_cons_zero, List.setIfInBounds_toArray, List.set_cons_zero, List.set_cons_succ]
    refine wpAnyH_ready (rs := [4, 5]) (by kernel_rfl) (by simp) ?_
    refine AllReadyH.cons rfl (fun K hK => ?_) (AllReadyH.cons rfl (fun K hK => ?_) AllReadyH.nil)
    · go_simp
      have hSa := (Same.refl Wd).alloc (.cells #[.int .u64 0, .int .u64 0] 27)
      have hPa := PairAt.new Wd 27 (.int .u64 0) (.int .u64 0)
      have hNa : Wd.heap.size ≠ gx ∧ Wd.heap.size ≠ xx ∧ Wd.heap.size ≠ lx ∧ w.heap.size ≤ Wd.heap.size := ⟨World.new_ne Wd ⟨gx, 0, none⟩ (by assumption : TS w gx xx lx P Q G H ra rn rc x au av bu bv Wd).2.2.2.2.2.1, World.new_ne Wd ⟨xx, 0, none⟩ (by assumption : TS w gx xx lx P Q G H ra rn rc x au av bu bv Wd).2.2.2.2.1, World.new_ne Wd ⟨lx, 0, none⟩ (by assumption : TS w gx xx lx P Q G H ra rn rc x au av bu bv Wd).1, (by assumption : TS w gx xx lx P Q G H ra rn rc x au av bu bv Wd).base.size⟩
      obtain ⟨wa, eA⟩ : ∃ wA, Wd.alloc (.cells #[.int .u64 0, .int .u64 0] 27) = wA := ⟨_, rfl⟩
      obtain ⟨ax, eD⟩ : ∃ dx, Wd.heap.size = dx := ⟨_, rfl⟩
      rw [eA] at hSa hPa ⊢
      rw [eD] at hPa hNa ⊢
      clear eA eD
      refine hK.out _ _ ?_ (fun hHeld => ?_)
      · exact TS.same (by with_reducible assumption) (by with_reducible assumption)
      clear hK K
      try simp only [Act.put, List.getElem_toArray, List.getElem_cons_succ, List.getElem_cons_zero, List.setIfInBounds_toArray, List.set_cons_zero, List.set_cons_succ]
      refine wpAnyH_ready (rs := [5]) (by kernel_rfl) (by simp) ?_
      refine AllReadyH.cons rfl (fun K hK => ?_) AllReadyH.nil
      go_simp
      have hSb := (Same.refl wa).alloc (.cells #[.int .u64 0, .int .u64 0] 27)
      have hPb := PairAt.new wa 27 (.int .u64 0) (.int .u64 0)
      have hNb : wa.heap.size ≠ gx ∧ wa.heap.size ≠ xx ∧ wa.heap.size ≠ lx ∧ w.heap.size ≤ wa.heap.size ∧ wa.heap.size ≠ ax := ⟨World.new_ne wa ⟨gx, 0, none⟩ (by assumption : TS w gx xx lx P Q G H ra rn rc x au av bu bv wa).2.2.2.2.2.1, World.new_ne wa ⟨xx, 0, none⟩ (by assumption : TS w gx xx lx P Q G H ra rn rc x au av bu bv wa).2.2.2.2.1, World.new_ne wa ⟨lx, 0, none⟩ (by assumption : TS w gx xx lx P Q G H ra rn rc x au av bu bv wa).1, (by assumption : TS w gx xx lx P Q G H ra rn rc x au av bu bv wa).base.size, World.new_ne wa ⟨ax, 0, none⟩ hPa.u⟩
      obtain ⟨wb, eA⟩ : ∃ wA, wa.alloc (.cells #[.int .u64 0, .int .u64 0] 27) = wA := ⟨_, rfl⟩
      obtain ⟨bx, eD⟩ : ∃ dx, wa.heap.size = dx := ⟨_, rfl⟩
      rw [eA] at hSb hPb ⊢
      rw [eD] at hPb hNb ⊢
      clear eA eD
      replace hPa := hPa.same hSb
      refine hK.out _ _ ?_ (fun hHeld => ?_)
      · exact TS.same (by with_reducible assumption) (by with_reducible assumption)
      clear hK K
      try simp only [Act.put, List.getElem_toArray, List.getElem_cons_succ, List.getElem_cons_zero, List.setIfInBounds_toArray, List.set_cons_zero, List.set_cons_succ]
      refine wpAnyH_ready (rs := [6]) (by kernel_rfl) (by simp) ?_
      refine AllReadyH.cons rfl (fun K hK => ?_) AllReadyH.nil
      have hQ := hPa
      obtain ⟨z0, z1, z2, z3⟩ := hQ
      go_simp
      have hPa := hPa.put (.int .u64 au) (.int .u64 av)
      have hPb := (hPb.far (o := 0) hNb.2.2.2.2.symm (.int .u64 au)).far (o := 1) hNb.2.2.2.2.symm (.int .u64 av)
      refine hK.out _ _ ?_ (fun hHeld => ?_)
      · exact (TS.set hHeld hNa.1 hNa.2.1 hNa.2.2.1 hNa.2.2.2 _).set hNa.1 hNa.2.1 hNa.2.2.1 hNa.2.2.2 _
      clear hK K
      try simp only [Act.put, List.getElem_toArray, List.getElem_cons_succ, List.getElem_cons_zero, List.setIfInBounds_toArray, List.set_cons_zero, List.set_cons_succ]
      clear z0 z1 z2 z3
      refine wpAnyH_ready (rs := [7]) (by kernel_rfl) (by simp) ?_
      refine AllReadyH.cons rfl (fun K hK => ?_) AllReadyH.nil
      have hQ := hPb
      obtain ⟨z0, z1, z2, z3⟩ := hQ
      go_simp
      have hPb := hPb.put (.int .u64 bu) (.int .u64 bv)
      have hPa := (hPa.far (o := 0) hNb.2.2.2.2 (.int .u64 bu)).far (o := 1) hNb.2.2.2.2 (.int .u64 bv)
      refine hK.out _ _ ?_ (fun hHeld => ?_)
      · exact (TS.set hHeld hNb.1 hNb.2.1 hNb.2.2.1 hNb.2.2.2.1 _).set hNb.1 hNb.2.1 hNb.2.2.1 hNb.2.2.2.1 _
      clear hK K
      try simp only [Act.put, List.getElem_toArray, List.getElem_cons_succ, List.getElem_cons_zero, List.setIfInBounds_toArray, List.set_cons_zero, List.set_cons_succ]
      clear z0 z1 z2 z3
      refine wpAnyH_done (by kernel_rfl) ?_ _
      go_wp2_with fail
      go_meet
      exact ⟨ax, bx, rfl, rfl, hPa.u, hPa.v, hPb.u, hPb.v, hHeld.2.2.2.2⟩
    · go_simp
      have hSb := (Same.refl Wd).alloc (.cells #[.int .u64 0, .int .u64 0] 27)
      have hPb := PairAt.new Wd 27 (.int .u64 0) (.int .u64 0)
      have hNb : Wd.heap.size ≠ gx ∧ Wd.heap.size ≠ xx ∧ Wd.heap.size ≠ lx ∧ w.heap.size ≤ Wd.heap.size := ⟨World.new_ne Wd ⟨gx, 0, none⟩ (by assumption : TS w gx xx lx P Q G H ra rn rc x au av bu bv Wd).2.2.2.2.2.1, World.new_ne Wd ⟨xx, 0, none⟩ (by assumption : TS w gx xx lx P Q G H ra rn rc x au av bu bv Wd).2.2.2.2.1, World.new_ne Wd ⟨lx, 0, none⟩ (by assumption : TS w gx xx lx P Q G H ra rn rc x au av bu bv Wd).1, (by assumption : TS w gx xx lx P Q G H ra rn rc x au av bu bv Wd).base.size⟩
      obtain ⟨wb, eA⟩ : ∃ wA, Wd.alloc (.cells #[.int .u64 0, .int .u64 0] 27) = wA := ⟨_, rfl⟩
      obtain ⟨bx, eD⟩ : ∃ dx, Wd.heap.size = dx := ⟨_, rfl⟩
      rw [eA] at hSb hPb ⊢
      rw [eD] at hPb hNb ⊢
      clear eA eD
      refine hK.out _ _ ?_ (fun hHeld => ?_)
      · exact TS.same (by with_reducible assumption) (by with_reducible assumption)
      clear hK K
      try simp only [Act.put, List.getElem_toArray, List.getElem_cons_succ, List.getElem_cons_zero, List.setIfInBounds_toArray, List.set_cons_zero, List.set_cons_succ]
      refine wpAnyH_ready (rs := [4]) (by kernel_rfl) (by simp) ?_
      refine AllReadyH.cons rfl (fun K hK => ?_) AllReadyH.nil
      go_simp
      have hSa := (Same.refl wb).alloc (.cells #[.int .u64 0, .int .u64 0] 27)
      have hPa := PairAt.new wb 27 (.int .u64 0) (.int .u64 0)
      have hNa : wb.heap.size ≠ gx ∧ wb.heap.size ≠ xx ∧ wb.heap.size ≠ lx ∧ w.heap.size ≤ wb.heap.size ∧ wb.heap.size ≠ bx := ⟨World.new_ne wb ⟨gx, 0, none⟩ (by assumption : TS w gx xx lx P Q G H ra rn rc x au av bu bv wb).2.2.2.2.2.1, World.new_ne wb ⟨xx, 0, none⟩ (by assumption : TS w gx xx lx P Q G H ra rn rc x au av bu bv wb).2.2.2.2.1, World.new_ne wb ⟨lx, 0, none⟩ (by assumption : TS w gx xx lx P Q G H ra rn rc x au av bu bv wb).1, (by assumption : TS w gx xx lx P Q G H ra rn rc x au av bu bv wb).base.size, World.new_ne wb ⟨bx, 0, none⟩ hPb.u⟩
      obtain ⟨wa, eA⟩ : ∃ wA, wb.alloc (.cells #[.int .u64 0, .int .u64 0] 27) = wA := ⟨_, rfl⟩
      obtain ⟨ax, eD⟩ : ∃ dx, wb.heap.size = dx := ⟨_, rfl⟩
      rw [eA] at hSa hPa ⊢
      rw [eD] at hPa hNa ⊢
      clear eA eD
      replace hPb := hPb.same hSa
      refine hK.out _ _ ?_ (fun hHeld => ?_)
      · exact TS.same (by with_reducible assumption) (by with_reducible assumption)
      clear hK K
      try simp only [Act.put, List.getElem_toArray, List.getElem_cons_succ, List.getElem_cons_zero, List.setIfInBounds_toArray, List.set_cons_zero, List.set_cons_succ]
      refine wpAnyH_ready (rs := [6]) (by kernel_rfl) (by simp) ?_
      refine AllReadyH.cons rfl (fun K hK => ?_) AllReadyH.nil
      have hQ := hPa
      obtain ⟨z0, z1, z2, z3⟩ := hQ
      go_simp
      have hPa := hPa.put (.int .u64 au) (.int .u64 av)
      have hPb := (hPb.far (o := 0) hNa.2.2.2.2 (.int .u64 au)).far (o := 1) hNa.2.2.2.2 (.int .u64 av)
      refine hK.out _ _ ?_ (fun hHeld => ?_)
      · exact (TS.set hHeld hNa.1 hNa.2.1 hNa.2.2.1 hNa.2.2.2.1 _).set hNa.1 hNa.2.1 hNa.2.2.1 hNa.2.2.2.1 _
      clear hK K
      try simp only [Act.put, List.getElem_toArray, List.getElem_cons_succ, List.getElem_cons_zero, List.setIfInBounds_toArray, List.set_cons_zero, List.set_cons_succ]
      clear z0 z1 z2 z3
      refine wpAnyH_ready (rs := [7]) (by kernel_rfl) (by simp) ?_
      refine AllReadyH.cons rfl (fun K hK => ?_) AllReadyH.nil
      have hQ := hPb
      obtain ⟨z0, z1, z2, z3⟩ := hQ
      go_simp
      have hPb := hPb.put (.int .u64 bu) (.int .u64 bv)
      have hPa := (hPa.far (o := 0) hNa.2.2.2.2.symm (.int .u64 bu)).far (o := 1) hNa.2.2.2.2.symm (.int .u64 bv)
      refine hK.out _ _ ?_ (fun hHeld => ?_)
      · exact (TS.set hHeld hNb.1 hNb.2.1 hNb.2.2.1 hNb.2.2.2 _).set hNb.1 hNb.2.1 hNb.2.2.1 hNb.2.2.2 _
      clear hK K
      try simp only [Act.put, List.getElem_toArray, List.getElem_cons_succ, List.getElem_cons_zero, List.setIfInBounds_toArray, List.set_cons_zero, List.set_cons_succ]
      clear z0 z1 z2 z3
      refine wpAnyH_done (by kernel_rfl) ?_ _
      go_wp2_with fail
      go_meet
      exact ⟨ax, bx, rfl, rfl, hPa.u, hPa.v, hPb.u, hPb.v, hHeld.2.2.2.2⟩
  case rest =>
    obtain ⟨ax, bx, e7, e8, hB2⟩ := hcut
    subst e7 e8
    clear hB
    have HB2 := Lib.hid hB2
    obtain ⟨a0, a1, b0, b1, x0, g0, g1, g2, g3, g4, hS⟩ := hB2
    go_wp2_with fail
    refine (group5_any P Q G H ra rn rc rs HU.out.1 HU.out.2.1 HU.out.2.2.1 HU.out.2.2.2 _ (H1.out.same hS)).mono ?_
    rintro e1 w2 ⟨rfl, hT⟩
    by_cases hg : GoodP P Q G H rs
    case neg =>
      rw [goodB_no hg]
      clear hg
      go_wp2_with fail
      go_ret
      exact ⟨rfl, hS.trans hT⟩
    rw [goodB_yes hg]
    have HR := Lib.hid hg.2
    replace HB2 := Lib.hid (TD.same HB2.out hT)
    clear hg a0 a1 b0 b1 x0 g0 g1 g2 g3 g4 hS hT
    obtain ⟨a0, a1, b0, b1, x0, g0, g1, g2, g3, g4, hS⟩ := HB2.out
    go_wp2_with fail
    refine (all_any P Q G H ra rn rc _ 4 4 [au, av, bu, bv] HU.out.1.1 HU.out.2.1.1 HU.out.2.1.2 _ (ints_four _ _ _ _ _ _ HUl.out.1 HUl.out.2.1 HUl.out.2.2.1 HUl.out.2.2.2)).mono ?_
    rintro e1 w3 ⟨rfl, hT⟩
    by_cases ha : AllE P Q [au, av, bu, bv]
    case neg =>
      rw [allB_no ha]
      clear ha
      go_wp2_with fail
      go_ret
      exact ⟨rfl, hS.trans (((Same.refl _).alloc _).trans hT)⟩
    rw [allB_yes ha]
    obtain ⟨m1, m2, m3, m4⟩ := four_of ha
    have hgp := HR.out.grp
    obtain ⟨cu, ecu⟩ : ∃ k, prodI P [au, bu] = k := ⟨_, rfl⟩
    obtain ⟨cv, ecv⟩ : ∃ k, prodI P [av, bv] = k := ⟨_, rfl⟩
    obtain ⟨oa, eoa⟩ : ∃ k, openI P Q x au av = k := ⟨_, rfl⟩
    obtain ⟨ob, eob⟩ : ∃ k, openI P Q x bu bv = k := ⟨_, rfl⟩
    obtain ⟨oc, eoc⟩ : ∃ k, openI P Q x cu cv = k := ⟨_, rfl⟩
    have EJ := Lib.hid (show prodI P [oa, ob] = oc by rw [← eoa, ← eob, ← eoc, ← ecu, ← ecv, open_times hgp m1 m2 m3 m4 HX.out.1])
    have HUc := Lib.hid (show U64 cu ∧ U64 cv by rw [← ecu, ← ecv]; exact ⟨prodI_u _ _, prodI_u _ _⟩)
    have HOU := Lib.hid (show U64 oa ∧ U64 ob by rw [← eoa, ← eob]; exact ⟨overI_u _ _ _, overI_u _ _ _⟩)
    have ECU := Lib.hid ecu
    have ECV := Lib.hid ecv
    have EOA := Lib.hid eoa
    have EOB := Lib.hid eob
    have EOC := Lib.hid eoc
    have HB3 := Lib.hid ((TD.same HB2.out (((Same.refl _).alloc _).trans hT)).same (drew_same w3))
    clear ha m1 m2 m3 m4 hgp ecu ecv eoa eob eoc hT HB2 a0 a1 b0 b1 x0 g0 g1 g2 g3 g4 hS
    have hmf : ∀ (fn : Fn) (first cap : Array Value) (w : World), (Instr.makeFunc fn first cap).run Try.prog w = .ok (.func fn first cap) w := fun _ _ _ _ => rfl
    go_upto_region 7 with fail
    clear hmf
    go_cut [10] (fun s10 wx => ∃ cx, s10 = .pointer (some ⟨cx, 0, none⟩) ∧ TC w gx xx ax bx cx P Q G H ra rn rc x au av bu bv cu cv wx)
    case first =>
      refine wp_region_held_drew (S := fun w' => TD w gx xx ax bx P Q G H ra rn rc x au av bu bv w') (by kernel_rfl) HB3.out (fun hHeld => ?_)
      obtain ⟨Wd, eWd⟩ : ∃ Wd, w3.drew = Wd := ⟨_, rfl⟩
      rw [eWd] at hHeld ⊢
      clear eWd
      refine wpAnyH_take (i := 0) (v := ?_) rfl (by kernel_rfl) (by kernel_rfl) (by kernel_rfl) (fun _ _ _ h => h) (Or.inl ⟨by rfl, ?_⟩) (by assumption) ?_
      rotate_left
      · intro w hSw; (try dsimp only at hSw); go_simp; try with_reducible rfl
      try simp only [Act.put, List.getElem_toArray, List.getElem_cons_succ, List.getElem_cons_zero, List.setIfInBounds_toArray, List.set_cons_zero, List.set_cons_succ]
      refine wpAnyH_take (i := 1) (v := ?_) rfl (by kernel_rfl) (by kernel_rfl) (by kernel_rfl) (fun _ _ _ h => h) (Or.inl ⟨by rfl, ?_⟩) (by assumption) ?_
      rotate_left
      · intro w hSw; (try dsimp only at hSw); go_simp; try with_reducible rfl
      try simp only [Act.put, List.getElem_toArray, List.getElem_cons_succ, List.getElem_cons_zero, List.setIfInBounds_toArray, List.set_cons_zero, List.set_cons_succ]
      refine wpAnyH_take (i := 2) (v := ?_) rfl (by kernel_rfl) (by kernel_rfl) (by kernel_rfl) (fun _ _ _ h => h) (Or.inl ⟨by rfl, ?_⟩) (by assumption) ?_
      rotate_left
      · intro w hSw; (try dsimp only at hSw); go_simp; try with_reducible rfl
      try simp only [Act.put, List.getElem_toArray, List.getElem_cons_succ, List.getElem_cons_zero, List.setIfInBounds_toArray, List.set_cons_zero, List.set_cons_succ]
      refine wpAnyH_take (i := 3) (v := ?_) rfl (by kernel_rfl) (by kernel_rfl) (by kernel_rfl) (fun _ _ _ h => h) (Or.inl ⟨by rfl, ?_⟩) (by assumption) ?_
      rotate_left
      · intro w hSw; (try dsimp only at hSw); go_simp; try with_reducible rfl
      try simp only [Act.put, List.getElem_toArray, List.getElem_cons_succ, List.getElem_cons_zero, List.setIfInBounds_toArray, List.set_cons_zero, List.set_cons_succ]
      refine wpAnyH_take (i := 4) (v := ?_) rfl (by kernel_rfl) (by kernel_rfl) (by kernel_rfl) (fun _ _ _ h => h) (Or.inl ⟨by rfl, ?_⟩) (by assumption) ?_
      rotate_left
      · intro w hSw; (try dsimp only at hSw); go_simp; try with_reducible rfl
      try simp only [Act.put, List.getElem_toArray, List.getElem_cons_succ, List.getElem_cons_zero, List.setIfInBounds_toArray, List.set_cons_zero, List.set_cons_succ]
      refine wpAnyH_take (i := 7) (v := ?_) rfl (by kernel_rfl) (by kernel_rfl) (by kernel_rfl) (fun _ _ _ h => h) (Or.inl ⟨by rfl, ?_⟩) (by assumption) ?_
      rotate_left
      · intro w hSw; (try dsimp only at hSw); go_simp; try with_reducible rfl
      try simp only [Act.put, List.getElem_toArray, List.getElem_cons_succ, List.getElem_cons_zero, List.setIfInBounds_toArray, List.set_cons_zero, List.set_cons_succ]
      refine wpAnyH_take (i := 8) (v := ?_) rfl (by kernel_rfl) (by kernel_rfl) (by kernel_rfl) (fun _ _ _ h => h) (Or.inl ⟨by rfl, ?_⟩) (by assumption) ?_
      rotate_left
      · intro w hSw; (try dsimp only at hSw); go_simp; try with_reducible rfl
      try simp only [Act.put, List.getElem_toArray, List.getElem_cons_succ, List.getElem_cons_zero, List.setIfInBounds_toArray, List.set_cons_zero, List.set_cons_succ]
      refine wpAnyH_take (i := 9) (v := ?_) rfl (by kernel_rfl) (by kernel_rfl) (by kernel_rfl) (fun _ _ _ h => h) (Or.inl ⟨by rfl, ?_⟩) (by assumption) ?_
      rotate_left
      · intro w hSw; (try dsimp only at hSw); go_simp; try with_reducible rfl
      try simp only [Act.put, List.getElem_toArray, List.getElem_cons_succ, List.getElem_cons_zero, List.setIfInBounds_toArray, List.set_cons_zero, List.set_cons_succ]
      refine wpAnyH_take (i := 10) (v := ?_) rfl (by kernel_rfl) (by kernel_rfl) (by kernel_rfl) (fun _ _ _ h => h) (Or.inl ⟨by rfl, ?_⟩) (by assumption) ?_
      rotate_left
      · intro w hSw; (try dsimp only at hSw); go_simp; try with_reducible rfl
      try simp only [Act.put, List.getElem_toArray, List.getElem_cons_succ, List.getElem_cons_zero, List.setIfInBounds_toArray, List.set_cons_zero, List.set_cons_succ]
      refine wpAnyH_take (i := 11) (v := ?_) rfl (by kernel_rfl) (by kernel_rfl) (by kernel_rfl) (fun _ _ _ h => h) (Or.inl ⟨by rfl, ?_⟩) (by assumption) ?_
      rotate_left
      · intro w hSw; (try dsimp only at hSw); go_simp; try with_reducible rfl
      try simp only [Act.put, List.getElem_toArray, List.getElem_cons_succ, List.getElem_cons_zero, List.setIfInBounds_toArray, List.set_cons_zero, List.set_cons_succ]
      refine wpAnyH_ready (rs := [5, 12, 15]) (by kernel_rfl) (by simp) ?_
      refine AllReadyH.cons rfl (fun K hK => ?_) (AllReadyH.cons rfl (fun K hK => ?_) (AllReadyH.cons rfl (fun K hK => ?_) AllReadyH.nil))
      · go_simp
        have hw4 := (Same.refl Wd).alloc (.cells #[.int .u64 au, .int .u64 bu] 22)
        have hI5 := ints_pair Wd 22 au bu HUl.out.1 HUl.out.2.2.1
        obtain ⟨w4, eA⟩ : ∃ wA, Wd.alloc (.cells #[.int .u64 au, .int .u64 bu] 22) = wA := ⟨_, rfl⟩
        obtain ⟨i5, eD⟩ : ∃ dx, Wd.heap.size = dx := ⟨_, rfl⟩
        rw [eA] at hw4 hI5 ⊢
        rw [eD] at hI5 ⊢
        clear eA eD
        refine hK.out _ _ ?_ (fun hHeld => ?_)
        · exact TD.same (by with_reducible assumption) (by with_reducible assumption)
        clear hK K
        try simp only [Act.put, List.getElem_toArray, List.getElem_cons_succ, List.getElem_cons_zero, List.setIfInBounds_toArray, List.set_cons_zero, List.set_cons_succ]
        refine wpAnyH_ready (rs := [6, 12, 15]) (by kernel_rfl) (by simp) ?_
        refine AllReadyH.cons rfl (fun K hK => ?_) (AllReadyH.cons rfl (fun K hK => ?_) (AllReadyH.cons rfl (fun K hK => ?_) AllReadyH.nil))
        · go_simp
          refine (join_any P Q G H ra rn rc _ 2 2 [au, bu] HU.out.1.1 _ hI5).mono ?_
          rintro e1 w5 ⟨rfl, hw5⟩
          rw [ECU.out]
          go_wp2_with fail
          clear hI5
          refine hK.out _ _ ?_ (fun hHeld => ?_)
          · exact TD.same (by with_reducible assumption) (by with_reducible assumption)
          clear hK K
          try simp only [Act.put, List.getElem_toArray, List.getElem_cons_succ, List.getElem_cons_zero, List.setIfInBounds_toArray, List.set_cons_zero, List.set_cons_succ]
          refine wpAnyH_ready (rs := [12, 15]) (by kernel_rfl) (by simp) ?_
          refine AllReadyH.cons rfl (fun K hK => ?_) (AllReadyH.cons rfl (fun K hK => ?_) AllReadyH.nil)
          · go_simp
            have hw6 := (Same.refl w5).alloc (.cells #[.int .u64 av, .int .u64 bv] 22)
            have hI12 := ints_pair w5 22 av bv HUl.out.2.1 HUl.out.2.2.2
            obtain ⟨w6, eA⟩ : ∃ wA, w5.alloc (.cells #[.int .u64 av, .int .u64 bv] 22) = wA := ⟨_, rfl⟩
            obtain ⟨i12, eD⟩ : ∃ dx, w5.heap.size = dx := ⟨_, rfl⟩
            rw [eA] at hw6 hI12 ⊢
            rw [eD] at hI12 ⊢
            clear eA eD
            refine hK.out _ _ ?_ (fun hHeld => ?_)
            · exact TD.same (by with_reducible assumption) (by with_reducible assumption)
            clear hK K
            try simp only [Act.put, List.getElem_toArray, List.getElem_cons_succ, List.getElem_cons_zero, List.setIfInBounds_toArray, List.set_cons_zero, List.set_cons_succ]
            refine wpAnyH_ready (rs := [13, 15]) (by kernel_rfl) (by simp) ?_
            refine AllReadyH.cons rfl (fun K hK => ?_) (AllReadyH.cons rfl (fun K hK => ?_) AllReadyH.nil)
            · go_simp
              refine (join_any P Q G H ra rn rc _ 2 2 [av, bv] HU.out.1.1 _ hI12).mono ?_
              rintro e1 w7 ⟨rfl, hw7⟩
              rw [ECV.out]
              go_wp2_with fail
              clear hI12
              refine hK.out _ _ ?_ (fun hHeld => ?_)
              · exact TD.same (by with_reducible assumption) (by with_reducible assumption)
              clear hK K
              try simp only [Act.put, List.getElem_toArray, List.getElem_cons_succ, List.getElem_cons_zero, List.setIfInBounds_toArray, List.set_cons_zero, List.set_cons_succ]
              refine wpAnyH_take (i := 14) (v := ?_) rfl (by kernel_rfl) (by kernel_rfl) (by kernel_rfl) (fun _ _ _ h => h) (Or.inl ⟨by rfl, ?_⟩) (by assumption) ?_
              rotate_left
              · intro w hSw; (try dsimp only at hSw); go_simp; try with_reducible rfl
              try simp only [Act.put, List.getElem_toArray, List.getElem_cons_succ, List.getElem_cons_zero, List.setIfInBounds_toArray, List.set_cons_zero, List.set_cons_succ]
              refine wpAnyH_ready (rs := [15]) (by kernel_rfl) (by simp) ?_
              refine AllReadyH.cons rfl (fun K hK => ?_) AllReadyH.nil
              go_simp
              have hSc := (Same.refl w7).alloc (.cells #[.int .u64 0, .int .u64 0] 27)
              have hPc := PairAt.new w7 27 (.int .u64 0) (.int .u64 0)
              have hNc : w7.heap.size ≠ gx ∧ w7.heap.size ≠ xx ∧ w7.heap.size ≠ ax ∧ w7.heap.size ≠ bx ∧ w.heap.size ≤ w7.heap.size := ⟨World.new_ne w7 ⟨gx, 0, none⟩ (by assumption : TD w gx xx ax bx P Q G H ra rn rc x au av bu bv w7).2.2.2.2.2.1, World.new_ne w7 ⟨xx, 0, none⟩ (by assumption : TD w gx xx ax bx P Q G H ra rn rc x au av bu bv w7).2.2.2.2.1, World.new_ne w7 ⟨ax, 0, none⟩ (by assumption : TD w gx xx ax bx P Q G H ra rn rc x au av bu bv w7).1, World.new_ne w7 ⟨bx, 0, none⟩ (by assumption : TD w gx xx ax bx P Q G H ra rn rc x au av bu bv w7).2.2.1, (by assumption : TD w gx xx ax bx P Q G H ra rn rc x au av bu bv w7).base.size⟩
              obtain ⟨wc, eA⟩ : ∃ wA, w7.alloc (.cells #[.int .u64 0, .int .u64 0] 27) = wA := ⟨_, rfl⟩
              obtain ⟨cx, eD⟩ : ∃ dx, w7.heap.size = dx := ⟨_, rfl⟩
              rw [eA] at hSc hPc ⊢
              rw [eD] at hPc hNc ⊢
              clear eA eD
              refine hK.out _ _ ?_ (fun hHeld => ?_)
              · exact TD.same (by with_reducible assumption) (by with_reducible assumption)
              clear hK K
              try simp only [Act.put, List.getElem_toArray, List.getElem_cons_succ, List.getElem_cons_zero, List.setIfInBounds_toArray, List.set_cons_zero, List.set_cons_succ]
              refine wpAnyH_ready (rs := [16]) (by kernel_rfl) (by simp) ?_
              refine AllReadyH.cons rfl (fun K hK => ?_) AllReadyH.nil
              have hQ := hPc
              obtain ⟨z0, z1, z2, z3⟩ := hQ
              go_simp
              have hPc := hPc.put (.int .u64 cu) (.int .u64 cv)
              refine hK.out _ _ ?_ (fun hHeld => ?_)
              · exact (TD.set hHeld hNc.1 hNc.2.1 hNc.2.2.1 hNc.2.2.2.1 hNc.2.2.2.2 _).set hNc.1 hNc.2.1 hNc.2.2.1 hNc.2.2.2.1 hNc.2.2.2.2 _
              clear hK K
              try simp only [Act.put, List.getElem_toArray, List.getElem_cons_succ, List.getElem_cons_zero, List.setIfInBounds_toArray, List.set_cons_zero, List.set_cons_succ]
              refine wpAnyH_done (by kernel_rfl) ?_ _
              go_wp2_with fail
              go_meet
              exact ⟨cx, rfl, hPc.u, hPc.v, hHeld⟩
            · go_simp
              have hSc := (Same.refl w6).alloc (.cells #[.int .u64 0, .int .u64 0] 27)
              have hPc := PairAt.new w6 27 (.int .u64 0) (.int .u64 0)
              have hNc : w6.heap.size ≠ gx ∧ w6.heap.size ≠ xx ∧ w6.heap.size ≠ ax ∧ w6.heap.size ≠ bx ∧ w.heap.size ≤ w6.heap.size := ⟨World.new_ne w6 ⟨gx, 0, none⟩ (by assumption : TD w gx xx ax bx P Q G H ra rn rc x au av bu bv w6).2.2.2.2.2.1, World.new_ne w6 ⟨xx, 0, none⟩ (by assumption : TD w gx xx ax bx P Q G H ra rn rc x au av bu bv w6).2.2.2.2.1, World.new_ne w6 ⟨ax, 0, none⟩ (by assumption : TD w gx xx ax bx P Q G H ra rn rc x au av bu bv w6).1, World.new_ne w6 ⟨bx, 0, none⟩ (by assumption : TD w gx xx ax bx P Q G H ra rn rc x au av bu bv w6).2.2.1, (by assumption : TD w gx xx ax bx P Q G H ra rn rc x au av bu bv w6).base.size⟩
              obtain ⟨wc, eA⟩ : ∃ wA, w6.alloc (.cells #[.int .u64 0, .int .u64 0] 27) = wA := ⟨_, rfl⟩
              obtain ⟨cx, eD⟩ : ∃ dx, w6.heap.size = dx := ⟨_, rfl⟩
              rw [eA] at hSc hPc ⊢
              rw [eD] at hPc hNc ⊢
              clear eA eD
              replace hI12 := hI12.same hSc
              refine hK.out _ _ ?_ (fun hHeld => ?_)
              · exact TD.same (by with_reducible assumption) (by with_reducible assumption)
              clear hK K
              try simp only [Act.put, List.getElem_toArray, List.getElem_cons_succ, List.getElem_cons_zero, List.setIfInBounds_toArray, List.set_cons_zero, List.set_cons_succ]
              refine wpAnyH_ready (rs := [13]) (by kernel_rfl) (by simp) ?_
              refine AllReadyH.cons rfl (fun K hK => ?_) AllReadyH.nil
              go_simp
              refine (join_any P Q G H ra rn rc _ 2 2 [av, bv] HU.out.1.1 _ hI12).mono ?_
              rintro e1 w7 ⟨rfl, hw7⟩
              rw [ECV.out]
              go_wp2_with fail
              clear hI12
              replace hPc := hPc.same hw7
              refine hK.out _ _ ?_ (fun hHeld => ?_)
              · exact TD.same (by with_reducible assumption) (by with_reducible assumption)
              clear hK K
              try simp only [Act.put, List.getElem_toArray, List.getElem_cons_succ, List.getElem_cons_zero, List.setIfInBounds_toArray, List.set_cons_zero, List.set_cons_succ]
              refine wpAnyH_take (i := 14) (v := ?_) rfl (by kernel_rfl) (by kernel_rfl) (by kernel_rfl) (fun _ _ _ h => h) (Or.inl ⟨by rfl, ?_⟩) (by assumption) ?_
              rotate_left
              · intro w hSw; (try dsimp only at hSw); go_simp; try with_reducible rfl
              try simp only [Act.put, List.getElem_toArray, List.getElem_cons_succ, List.getElem_cons_zero, List.setIfInBounds_toArray, List.set_cons_zero, List.set_cons_succ]
              refine wpAnyH_ready (rs := [16]) (by kernel_rfl) (by simp) ?_
              refine AllReadyH.cons rfl (fun K hK => ?_) AllReadyH.nil
              have hQ := hPc
              obtain ⟨z0, z1, z2, z3⟩ := hQ
              go_simp
              have hPc := hPc.put (.int .u64 cu) (.int .u64 cv)
              refine hK.out _ _ ?_ (fun hHeld => ?_)
              · exact (TD.set hHeld hNc.1 hNc.2.1 hNc.2.2.1 hNc.2.2.2.1 hNc.2.2.2.2 _).set hNc.1 hNc.2.1 hNc.2.2.1 hNc.2.2.2.1 hNc.2.2.2.2 _
              clear hK K
              try simp only [Act.put, List.getElem_toArray, List.getElem_cons_succ, List.getElem_cons_zero, List.setIfInBounds_toArray, List.set_cons_zero, List.set_cons_succ]
              refine wpAnyH_done (by kernel_rfl) ?_ _
              go_wp2_with fail
              go_meet
              exact ⟨cx, rfl, hPc.u, hPc.v, hHeld⟩
          · go_simp
            have hSc := (Same.refl w5).alloc (.cells #[.int .u64 0, .int .u64 0] 27)
            have hPc := PairAt.new w5 27 (.int .u64 0) (.int .u64 0)
            have hNc : w5.heap.size ≠ gx ∧ w5.heap.size ≠ xx ∧ w5.heap.size ≠ ax ∧ w5.heap.size ≠ bx ∧ w.heap.size ≤ w5.heap.size := ⟨World.new_ne w5 ⟨gx, 0, none⟩ (by assumption : TD w gx xx ax bx P Q G H ra rn rc x au av bu bv w5).2.2.2.2.2.1, World.new_ne w5 ⟨xx, 0, none⟩ (by assumption : TD w gx xx ax bx P Q G H ra rn rc x au av bu bv w5).2.2.2.2.1, World.new_ne w5 ⟨ax, 0, none⟩ (by assumption : TD w gx xx ax bx P Q G H ra rn rc x au av bu bv w5).1, World.new_ne w5 ⟨bx, 0, none⟩ (by assumption : TD w gx xx ax bx P Q G H ra rn rc x au av bu bv w5).2.2.1, (by assumption : TD w gx xx ax bx P Q G H ra rn rc x au av bu bv w5).base.size⟩
            obtain ⟨wc, eA⟩ : ∃ wA, w5.alloc (.cells #[.int .u64 0, .int .u64 0] 27) = wA := ⟨_, rfl⟩
            obtain ⟨cx, eD⟩ : ∃ dx, w5.heap.size = dx := ⟨_, rfl⟩
            rw [eA] at hSc hPc ⊢
            rw [eD] at hPc hNc ⊢
            clear eA eD
            refine hK.out _ _ ?_ (fun hHeld => ?_)
            · exact TD.same (by with_reducible assumption) (by with_reducible assumption)
            clear hK K
            try simp only [Act.put, List.getElem_toArray, List.getElem_cons_succ, List.getElem_cons_zero, List.setIfInBounds_toArray, List.set_cons_zero, List.set_cons_succ]
            refine wpAnyH_ready (rs := [12]) (by kernel_rfl) (by simp) ?_
            refine AllReadyH.cons rfl (fun K hK => ?_) AllReadyH.nil
            go_simp
            have hw6 := (Same.refl wc).alloc (.cells #[.int .u64 av, .int .u64 bv] 22)
            have hI12 := ints_pair wc 22 av bv HUl.out.2.1 HUl.out.2.2.2
            obtain ⟨w6, eA⟩ : ∃ wA, wc.alloc (.cells #[.int .u64 av, .int .u64 bv] 22) = wA := ⟨_, rfl⟩
            obtain ⟨i12, eD⟩ : ∃ dx, wc.heap.size = dx := ⟨_, rfl⟩
            rw [eA] at hw6 hI12 ⊢
            rw [eD] at hI12 ⊢
            clear eA eD
            replace hPc := hPc.same hw6
            refine hK.out _ _ ?_ (fun hHeld => ?_)
            · exact TD.same (by with_reducible assumption) (by with_reducible assumption)
            clear hK K
            try simp only [Act.put, List.getElem_toArray, List.getElem_cons_succ, List.getElem_cons_zero, List.setIfInBounds_toArray, List.set_cons_zero, List.set_cons_succ]
            refine wpAnyH_ready (rs := [13]) (by kernel_rfl) (by simp) ?_
            refine AllReadyH.cons rfl (fun K hK => ?_) AllReadyH.nil
            go_simp
            refine (join_any P Q G H ra rn rc _ 2 2 [av, bv] HU.out.1.1 _ hI12).mono ?_
            rintro e1 w7 ⟨rfl, hw7⟩
            rw [ECV.out]
            go_wp2_with fail
            clear hI12
            replace hPc := hPc.same hw7
            refine hK.out _ _ ?_ (fun hHeld => ?_)
            · exact TD.same (by with_reducible assumption) (by with_reducible assumption)
            clear hK K
            try simp only [Act.put, List.getElem_toArray, List.getElem_cons_succ, List.getElem_cons_zero, List.setIfInBounds_toArray, List.set_cons_zero, List.set_cons_succ]
            refine wpAnyH_take (i := 14) (v := ?_) rfl (by kernel_rfl) (by kernel_rfl) (by kernel_rfl) (fun _ _ _ h => h) (Or.inl ⟨by rfl, ?_⟩) (by assumption) ?_
            rotate_left
            · intro w hSw; (try dsimp only at hSw); go_simp; try with_reducible rfl
            try simp only [Act.put, List.getElem_toArray, List.getElem_cons_succ, List.getElem_cons_zero, List.setIfInBounds_toArray, List.set_cons_zero, List.set_cons_succ]
            refine wpAnyH_ready (rs := [16]) (by kernel_rfl) (by simp) ?_
            refine AllReadyH.cons rfl (fun K hK => ?_) AllReadyH.nil
            have hQ := hPc
            obtain ⟨z0, z1, z2, z3⟩ := hQ
            go_simp
            have hPc := hPc.put (.int .u64 cu) (.int .u64 cv)
            refine hK.out _ _ ?_ (fun hHeld => ?_)
            · exact (TD.set hHeld hNc.1 hNc.2.1 hNc.2.2.1 hNc.2.2.2.1 hNc.2.2.2.2 _).set hNc.1 hNc.2.1 hNc.2.2.1 hNc.2.2.2.1 hNc.2.2.2.2 _
            clear hK K
            try simp only [Act.put, List.getElem_toArray, List.getElem_cons_succ, List.getElem_cons_zero, List.setIfInBounds_toArray, List.set_cons_zero, List.set_cons_succ]
            refine wpAnyH_done (by kernel_rfl) ?_ _
            go_wp2_with fail
            go_meet
            exact ⟨cx, rfl, hPc.u, hPc.v, hHeld⟩
        · go_simp
          have hw5 := (Same.refl w4).alloc (.cells #[.int .u64 av, .int .u64 bv] 22)
          have hI12 := ints_pair w4 22 av bv HUl.out.2.1 HUl.out.2.2.2
          obtain ⟨w5, eA⟩ : ∃ wA, w4.alloc (.cells #[.int .u64 av, .int .u64 bv] 22) = wA := ⟨_, rfl⟩
          obtain ⟨i12, eD⟩ : ∃ dx, w4.heap.size = dx := ⟨_, rfl⟩
          rw [eA] at hw5 hI12 ⊢
          rw [eD] at hI12 ⊢
          clear eA eD
          replace hI5 := hI5.same hw5
          refine hK.out _ _ ?_ (fun hHeld => ?_)
          · exact TD.same (by with_reducible assumption) (by with_reducible assumption)
          clear hK K
          try simp only [Act.put, List.getElem_toArray, List.getElem_cons_succ, List.getElem_cons_zero, List.setIfInBounds_toArray, List.set_cons_zero, List.set_cons_succ]
          refine wpAnyH_ready (rs := [6, 15]) (by kernel_rfl) (by simp) ?_
          refine AllReadyH.cons rfl (fun K hK => ?_) (AllReadyH.cons rfl (fun K hK => ?_) AllReadyH.nil)
          · go_simp
            refine (join_any P Q G H ra rn rc _ 2 2 [au, bu] HU.out.1.1 _ hI5).mono ?_
            rintro e1 w6 ⟨rfl, hw6⟩
            rw [ECU.out]
            go_wp2_with fail
            clear hI5
            replace hI12 := hI12.same hw6
            refine hK.out _ _ ?_ (fun hHeld => ?_)
            · exact TD.same (by with_reducible assumption) (by with_reducible assumption)
            clear hK K
            try simp only [Act.put, List.getElem_toArray, List.getElem_cons_succ, List.getElem_cons_zero, List.setIfInBounds_toArray, List.set_cons_zero, List.set_cons_succ]
            refine wpAnyH_ready (rs := [13, 15]) (by kernel_rfl) (by simp) ?_
            refine AllReadyH.cons rfl (fun K hK => ?_) (AllReadyH.cons rfl (fun K hK => ?_) AllReadyH.nil)
            · go_simp
              refine (join_any P Q G H ra rn rc _ 2 2 [av, bv] HU.out.1.1 _ hI12).mono ?_
              rintro e1 w7 ⟨rfl, hw7⟩
              rw [ECV.out]
              go_wp2_with fail
              clear hI12
              refine hK.out _ _ ?_ (fun hHeld => ?_)
              · exact TD.same (by with_reducible assumption) (by with_reducible assumption)
              clear hK K
              try simp only [Act.put, List.getElem_toArray, List.getElem_cons_succ, List.getElem_cons_zero, List.setIfInBounds_toArray, List.set_cons_zero, List.set_cons_succ]
              refine wpAnyH_take (i := 14) (v := ?_) rfl (by kernel_rfl) (by kernel_rfl) (by kernel_rfl) (fun _ _ _ h => h) (Or.inl ⟨by rfl, ?_⟩) (by assumption) ?_
              rotate_left
              · intro w hSw; (try dsimp only at hSw); go_simp; try with_reducible rfl
              try simp only [Act.put, List.getElem_toArray, List.getElem_cons_succ, List.getElem_cons_zero, List.setIfInBounds_toArray, List.set_cons_zero, List.set_cons_succ]
              refine wpAnyH_ready (rs := [15]) (by kernel_rfl) (by simp) ?_
              refine AllReadyH.cons rfl (fun K hK => ?_) AllReadyH.nil
              go_simp
              have hSc := (Same.refl w7).alloc (.cells #[.int .u64 0, .int .u64 0] 27)
              have hPc := PairAt.new w7 27 (.int .u64 0) (.int .u64 0)
              have hNc : w7.heap.size ≠ gx ∧ w7.heap.size ≠ xx ∧ w7.heap.size ≠ ax ∧ w7.heap.size ≠ bx ∧ w.heap.size ≤ w7.heap.size := ⟨World.new_ne w7 ⟨gx, 0, none⟩ (by assumption : TD w gx xx ax bx P Q G H ra rn rc x au av bu bv w7).2.2.2.2.2.1, World.new_ne w7 ⟨xx, 0, none⟩ (by assumption : TD w gx xx ax bx P Q G H ra rn rc x au av bu bv w7).2.2.2.2.1, World.new_ne w7 ⟨ax, 0, none⟩ (by assumption : TD w gx xx ax bx P Q G H ra rn rc x au av bu bv w7).1, World.new_ne w7 ⟨bx, 0, none⟩ (by assumption : TD w gx xx ax bx P Q G H ra rn rc x au av bu bv w7).2.2.1, (by assumption : TD w gx xx ax bx P Q G H ra rn rc x au av bu bv w7).base.size⟩
              obtain ⟨wc, eA⟩ : ∃ wA, w7.alloc (.cells #[.int .u64 0, .int .u64 0] 27) = wA := ⟨_, rfl⟩
              obtain ⟨cx, eD⟩ : ∃ dx, w7.heap.size = dx := ⟨_, rfl⟩
              rw [eA] at hSc hPc ⊢
              rw [eD] at hPc hNc ⊢
              clear eA eD
              refine hK.out _ _ ?_ (fun hHeld => ?_)
              · exact TD.same (by with_reducible assumption) (by with_reducible assumption)
              clear hK K
              try simp only [Act.put, List.getElem_toArray, List.getElem_cons_succ, List.getElem_cons_zero, List.setIfInBounds_toArray, List.set_cons_zero, List.set_cons_succ]
              refine wpAnyH_ready (rs := [16]) (by kernel_rfl) (by simp) ?_
              refine AllReadyH.cons rfl (fun K hK => ?_) AllReadyH.nil
              have hQ := hPc
              obtain ⟨z0, z1, z2, z3⟩ := hQ
              go_simp
              have hPc := hPc.put (.int .u64 cu) (.int .u64 cv)
              refine hK.out _ _ ?_ (fun hHeld => ?_)
              · exact (TD.set hHeld hNc.1 hNc.2.1 hNc.2.2.1 hNc.2.2.2.1 hNc.2.2.2.2 _).set hNc.1 hNc.2.1 hNc.2.2.1 hNc.2.2.2.1 hNc.2.2.2.2 _
              clear hK K
              try simp only [Act.put, List.getElem_toArray, List.getElem_cons_succ, List.getElem_cons_zero, List.setIfInBounds_toArray, List.set_cons_zero, List.set_cons_succ]
              refine wpAnyH_done (by kernel_rfl) ?_ _
              go_wp2_with fail
              go_meet
              exact ⟨cx, rfl, hPc.u, hPc.v, hHeld⟩
            · go_simp
              have hSc := (Same.refl w6).alloc (.cells #[.int .u64 0, .int .u64 0] 27)
              have hPc := PairAt.new w6 27 (.int .u64 0) (.int .u64 0)
              have hNc : w6.heap.size ≠ gx ∧ w6.heap.size ≠ xx ∧ w6.heap.size ≠ ax ∧ w6.heap.size ≠ bx ∧ w.heap.size ≤ w6.heap.size := ⟨World.new_ne w6 ⟨gx, 0, none⟩ (by assumption : TD w gx xx ax bx P Q G H ra rn rc x au av bu bv w6).2.2.2.2.2.1, World.new_ne w6 ⟨xx, 0, none⟩ (by assumption : TD w gx xx ax bx P Q G H ra rn rc x au av bu bv w6).2.2.2.2.1, World.new_ne w6 ⟨ax, 0, none⟩ (by assumption : TD w gx xx ax bx P Q G H ra rn rc x au av bu bv w6).1, World.new_ne w6 ⟨bx, 0, none⟩ (by assumption : TD w gx xx ax bx P Q G H ra rn rc x au av bu bv w6).2.2.1, (by assumption : TD w gx xx ax bx P Q G H ra rn rc x au av bu bv w6).base.size⟩
              obtain ⟨wc, eA⟩ : ∃ wA, w6.alloc (.cells #[.int .u64 0, .int .u64 0] 27) = wA := ⟨_, rfl⟩
              obtain ⟨cx, eD⟩ : ∃ dx, w6.heap.size = dx := ⟨_, rfl⟩
              rw [eA] at hSc hPc ⊢
              rw [eD] at hPc hNc ⊢
              clear eA eD
              replace hI12 := hI12.same hSc
              refine hK.out _ _ ?_ (fun hHeld => ?_)
              · exact TD.same (by with_reducible assumption) (by with_reducible assumption)
              clear hK K
              try simp only [Act.put, List.getElem_toArray, List.getElem_cons_succ, List.getElem_cons_zero, List.setIfInBounds_toArray, List.set_cons_zero, List.set_cons_succ]
              refine wpAnyH_ready (rs := [13]) (by kernel_rfl) (by simp) ?_
              refine AllReadyH.cons rfl (fun K hK => ?_) AllReadyH.nil
              go_simp
              refine (join_any P Q G H ra rn rc _ 2 2 [av, bv] HU.out.1.1 _ hI12).mono ?_
              rintro e1 w7 ⟨rfl, hw7⟩
              rw [ECV.out]
              go_wp2_with fail
              clear hI12
              replace hPc := hPc.same hw7
              refine hK.out _ _ ?_ (fun hHeld => ?_)
              · exact TD.same (by with_reducible assumption) (by with_reducible assumption)
              clear hK K
              try simp only [Act.put, List.getElem_toArray, List.getElem_cons_succ, List.getElem_cons_zero, List.setIfInBounds_toArray, List.set_cons_zero, List.set_cons_succ]
              refine wpAnyH_take (i := 14) (v := ?_) rfl (by kernel_rfl) (by kernel_rfl) (by kernel_rfl) (fun _ _ _ h => h) (Or.inl ⟨by rfl, ?_⟩) (by assumption) ?_
              rotate_left
              · intro w hSw; (try dsimp only at hSw); go_simp; try with_reducible rfl
              try simp only [Act.put, List.getElem_toArray, List.getElem_cons_succ, List.getElem_cons_zero, List.setIfInBounds_toArray, List.set_cons_zero, List.set_cons_succ]
              refine wpAnyH_ready (rs := [16]) (by kernel_rfl) (by simp) ?_
              refine AllReadyH.cons rfl (fun K hK => ?_) AllReadyH.nil
              have hQ := hPc
              obtain ⟨z0, z1, z2, z3⟩ := hQ
              go_simp
              have hPc := hPc.put (.int .u64 cu) (.int .u64 cv)
              refine hK.out _ _ ?_ (fun hHeld => ?_)
              · exact (TD.set hHeld hNc.1 hNc.2.1 hNc.2.2.1 hNc.2.2.2.1 hNc.2.2.2.2 _).set hNc.1 hNc.2.1 hNc.2.2.1 hNc.2.2.2.1 hNc.2.2.2.2 _
              clear hK K
              try simp only [Act.put, List.getElem_toArray, List.getElem_cons_succ, List.getElem_cons_zero, List.setIfInBounds_toArray, List.set_cons_zero, List.set_cons_succ]
              refine wpAnyH_done (by kernel_rfl) ?_ _
              go_wp2_with fail
              go_meet
              exact ⟨cx, rfl, hPc.u, hPc.v, hHeld⟩
          · go_simp
            have hSc := (Same.refl w5).alloc (.cells #[.int .u64 0, .int .u64 0] 27)
            have hPc := PairAt.new w5 27 (.int .u64 0) (.int .u64 0)
            have hNc : w5.heap.size ≠ gx ∧ w5.heap.size ≠ xx ∧ w5.heap.size ≠ ax ∧ w5.heap.size ≠ bx ∧ w.heap.size ≤ w5.heap.size := ⟨World.new_ne w5 ⟨gx, 0, none⟩ (by assumption : TD w gx xx ax bx P Q G H ra rn rc x au av bu bv w5).2.2.2.2.2.1, World.new_ne w5 ⟨xx, 0, none⟩ (by assumption : TD w gx xx ax bx P Q G H ra rn rc x au av bu bv w5).2.2.2.2.1, World.new_ne w5 ⟨ax, 0, none⟩ (by assumption : TD w gx xx ax bx P Q G H ra rn rc x au av bu bv w5).1, World.new_ne w5 ⟨bx, 0, none⟩ (by assumption : TD w gx xx ax bx P Q G H ra rn rc x au av bu bv w5).2.2.1, (by assumption : TD w gx xx ax bx P Q G H ra rn rc x au av bu bv w5).base.size⟩
            obtain ⟨wc, eA⟩ : ∃ wA, w5.alloc (.cells #[.int .u64 0, .int .u64 0] 27) = wA := ⟨_, rfl⟩
            obtain ⟨cx, eD⟩ : ∃ dx, w5.heap.size = dx := ⟨_, rfl⟩
            rw [eA] at hSc hPc ⊢
            rw [eD] at hPc hNc ⊢
            clear eA eD
            replace hI5 := hI5.same hSc
            replace hI12 := hI12.same hSc
            refine hK.out _ _ ?_ (fun hHeld => ?_)
            · exact TD.same (by with_reducible assumption) (by with_reducible assumption)
            clear hK K
            try simp only [Act.put, List.getElem_toArray, List.getElem_cons_succ, List.getElem_cons_zero, List.setIfInBounds_toArray, List.set_cons_zero, List.set_cons_succ]
            refine wpAnyH_ready (rs := [6]) (by kernel_rfl) (by simp) ?_
            refine AllReadyH.cons rfl (fun K hK => ?_) AllReadyH.nil
            go_simp
            refine (join_any P Q G H ra rn rc _ 2 2 [au, bu] HU.out.1.1 _ hI5).mono ?_
            rintro e1 w6 ⟨rfl, hw6⟩
            rw [ECU.out]
            go_wp2_with fail
            clear hI5
            replace hI12 := hI12.same hw6
            replace hPc := hPc.same hw6
            refine hK.out _ _ ?_ (fun hHeld => ?_)
            · exact TD.same (by with_reducible assumption) (by with_reducible assumption)
            clear hK K
            try simp only [Act.put, List.getElem_toArray, List.getElem_cons_succ, List.getElem_cons_zero, List.setIfInBounds_toArray, List.set_cons_zero, List.set_cons_succ]
            refine wpAnyH_ready (rs := [13]) (by kernel_rfl) (by simp) ?_
            refine AllReadyH.cons rfl (fun K hK => ?_) AllReadyH.nil
            go_simp
            refine (join_any P Q G H ra rn rc _ 2 2 [av, bv] HU.out.1.1 _ hI12).mono ?_
            rintro e1 w7 ⟨rfl, hw7⟩
            rw [ECV.out]
            go_wp2_with fail
            clear hI12
            replace hPc := hPc.same hw7
            refine hK.out _ _ ?_ (fun hHeld => ?_)
            · exact TD.same (by with_reducible assumption) (by with_reducible assumption)
            clear hK K
            try simp only [Act.put, List.getElem_toArray, List.getElem_cons_succ, List.getElem_cons_zero, List.setIfInBounds_toArray, List.set_cons_zero, List.set_cons_succ]
            refine wpAnyH_take (i := 14) (v := ?_) rfl (by kernel_rfl) (by kernel_rfl) (by kernel_rfl) (fun _ _ _ h => h) (Or.inl ⟨by rfl, ?_⟩) (by assumption) ?_
            rotate_left
            · intro w hSw; (try dsimp only at hSw); go_simp; try with_reducible rfl
            try simp only [Act.put, List.getElem_toArray, List.getElem_cons_succ, List.getElem_cons_zero, List.setIfInBounds_toArray, List.set_cons_zero, List.set_cons_succ]
            refine wpAnyH_ready (rs := [16]) (by kernel_rfl) (by simp) ?_
            refine AllReadyH.cons rfl (fun K hK => ?_) AllReadyH.nil
            have hQ := hPc
            obtain ⟨z0, z1, z2, z3⟩ := hQ
            go_simp
            have hPc := hPc.put (.int .u64 cu) (.int .u64 cv)
            refine hK.out _ _ ?_ (fun hHeld => ?_)
            · exact (TD.set hHeld hNc.1 hNc.2.1 hNc.2.2.1 hNc.2.2.2.1 hNc.2.2.2.2 _).set hNc.1 hNc.2.1 hNc.2.2.1 hNc.2.2.2.1 hNc.2.2.2.2 _
            clear hK K
            try simp only [Act.put, List.getElem_toArray, List.getElem_cons_succ, List.getElem_cons_zero, List.setIfInBounds_toArray, List.set_cons_zero, List.set_cons_succ]
            refine wpAnyH_done (by kernel_rfl) ?_ _
            go_wp2_with fail
            go_meet
            exact ⟨cx, rfl, hPc.u, hPc.v, hHeld⟩
        · go_simp
          have hSc := (Same.refl w4).alloc (.cells #[.int .u64 0, .int .u64 0] 27)
          have hPc := PairAt.new w4 27 (.int .u64 0) (.int .u64 0)
          have hNc : w4.heap.size ≠ gx ∧ w4.heap.size ≠ xx ∧ w4.heap.size ≠ ax ∧ w4.heap.size ≠ bx ∧ w.heap.size ≤ w4.heap.size := ⟨World.new_ne w4 ⟨gx, 0, none⟩ (by assumption : TD w gx xx ax bx P Q G H ra rn rc x au av bu bv w4).2.2.2.2.2.1, World.new_ne w4 ⟨xx, 0, none⟩ (by assumption : TD w gx xx ax bx P Q G H ra rn rc x au av bu bv w4).2.2.2.2.1, World.new_ne w4 ⟨ax, 0, none⟩ (by assumption : TD w gx xx ax bx P Q G H ra rn rc x au av bu bv w4).1, World.new_ne w4 ⟨bx, 0, none⟩ (by assumption : TD w gx xx ax bx P Q G H ra rn rc x au av bu bv w4).2.2.1, (by assumption : TD w gx xx ax bx P Q G H ra rn rc x au av bu bv w4).base.size⟩
          obtain ⟨wc, eA⟩ : ∃ wA, w4.alloc (.cells #[.int .u64 0, .int .u64 0] 27) = wA := ⟨_, rfl⟩
          obtain ⟨cx, eD⟩ : ∃ dx, w4.heap.size = dx := ⟨_, rfl⟩
          rw [eA] at hSc hPc ⊢
          rw [eD] at hPc hNc ⊢
          clear eA eD
          replace hI5 := hI5.same hSc
          refine hK.out _ _ ?_ (fun hHeld => ?_)
          · exact TD.same (by with_reducible assumption) (by with_reducible assumption)
          clear hK K
          try simp only [Act.put, List.getElem_toArray, List.getElem_cons_succ, List.getElem_cons_zero, List.setIfInBounds_toArray, List.set_cons_zero, List.set_cons_succ]
          refine wpAnyH_ready (rs := [6, 12]) (by kernel_rfl) (by simp) ?_
          refine AllReadyH.cons rfl (fun K hK => ?_) (AllReadyH.cons rfl (fun K hK => ?_) AllReadyH.nil)
          · go_simp
            refine (join_any P Q G H ra rn rc _ 2 2 [au, bu] HU.out.1.1 _ hI5).mono ?_
            rintro e1 w5 ⟨rfl, hw5⟩
            rw [ECU.out]
            go_wp2_with fail
            clear hI5
            replace hPc := hPc.same hw5
            refine hK.out _ _ ?_ (fun hHeld => ?_)
            · exact TD.same (by with_reducible assumption) (by with_reducible assumption)
            clear hK K
            try simp only [Act.put, List.getElem_toArray, List.getElem_cons_succ, List.getElem_cons_zero, List.setIfInBounds_toArray, List.set_cons_zero, List.set_cons_succ]
            refine wpAnyH_ready (rs := [12]) (by kernel_rfl) (by simp) ?_
            refine AllReadyH.cons rfl (fun K hK => ?_) AllReadyH.nil
            go_simp
            have hw6 := (Same.refl w5).alloc (.cells #[.int .u64 av, .int .u64 bv] 22)
            have hI12 := ints_pair w5 22 av bv HUl.out.2.1 HUl.out.2.2.2
            obtain ⟨w6, eA⟩ : ∃ wA, w5.alloc (.cells #[.int .u64 av, .int .u64 bv] 22) = wA := ⟨_, rfl⟩
            obtain ⟨i12, eD⟩ : ∃ dx, w5.heap.size = dx := ⟨_, rfl⟩
            rw [eA] at hw6 hI12 ⊢
            rw [eD] at hI12 ⊢
            clear eA eD
            replace hPc := hPc.same hw6
            refine hK.out _ _ ?_ (fun hHeld => ?_)
            · exact TD.same (by with_reducible assumption) (by with_reducible assumption)
            clear hK K
            try simp only [Act.put, List.getElem_toArray, List.getElem_cons_succ, List.getElem_cons_zero, List.setIfInBounds_toArray, List.set_cons_zero, List.set_cons_succ]
            refine wpAnyH_ready (rs := [13]) (by kernel_rfl) (by simp) ?_
            refine AllReadyH.cons rfl (fun K hK => ?_) AllReadyH.nil
            go_simp
            refine (join_any P Q G H ra rn rc _ 2 2 [av, bv] HU.out.1.1 _ hI12).mono ?_
            rintro e1 w7 ⟨rfl, hw7⟩
            rw [ECV.out]
            go_wp2_with fail
            clear hI12
            replace hPc := hPc.same hw7
            refine hK.out _ _ ?_ (fun hHeld => ?_)
            · exact TD.same (by with_reducible assumption) (by with_reducible assumption)
            clear hK K
            try simp only [Act.put, List.getElem_toArray, List.getElem_cons_succ, List.getElem_cons_zero, List.setIfInBounds_toArray, List.set_cons_zero, List.set_cons_succ]
            refine wpAnyH_take (i := 14) (v := ?_) rfl (by kernel_rfl) (by kernel_rfl) (by kernel_rfl) (fun _ _ _ h => h) (Or.inl ⟨by rfl, ?_⟩) (by assumption) ?_
            rotate_left
            · intro w hSw; (try dsimp only at hSw); go_simp; try with_reducible rfl
            try simp only [Act.put, List.getElem_toArray, List.getElem_cons_succ, List.getElem_cons_zero, List.setIfInBounds_toArray, List.set_cons_zero, List.set_cons_succ]
            refine wpAnyH_ready (rs := [16]) (by kernel_rfl) (by simp) ?_
            refine AllReadyH.cons rfl (fun K hK => ?_) AllReadyH.nil
            have hQ := hPc
            obtain ⟨z0, z1, z2, z3⟩ := hQ
            go_simp
            have hPc := hPc.put (.int .u64 cu) (.int .u64 cv)
            refine hK.out _ _ ?_ (fun hHeld => ?_)
            · exact (TD.set hHeld hNc.1 hNc.2.1 hNc.2.2.1 hNc.2.2.2.1 hNc.2.2.2.2 _).set hNc.1 hNc.2.1 hNc.2.2.1 hNc.2.2.2.1 hNc.2.2.2.2 _
            clear hK K
            try simp only [Act.put, List.getElem_toArray, List.getElem_cons_succ, List.getElem_cons_zero, List.setIfInBounds_toArray, List.set_cons_zero, List.set_cons_succ]
            refine wpAnyH_done (by kernel_rfl) ?_ _
            go_wp2_with fail
            go_meet
            exact ⟨cx, rfl, hPc.u, hPc.v, hHeld⟩
          · go_simp
            have hw5 := (Same.refl wc).alloc (.cells #[.int .u64 av, .int .u64 bv] 22)
            have hI12 := ints_pair wc 22 av bv HUl.out.2.1 HUl.out.2.2.2
            obtain ⟨w5, eA⟩ : ∃ wA, wc.alloc (.cells #[.int .u64 av, .int .u64 bv] 22) = wA := ⟨_, rfl⟩
            obtain ⟨i12, eD⟩ : ∃ dx, wc.heap.size = dx := ⟨_, rfl⟩
            rw [eA] at hw5 hI12 ⊢
            rw [eD] at hI12 ⊢
            clear eA eD
            replace hI5 := hI5.same hw5
            replace hPc := hPc.same hw5
            refine hK.out _ _ ?_ (fun hHeld => ?_)
            · exact TD.same (by with_reducible assumption) (by with_reducible assumption)
            clear hK K
            try simp only [Act.put, List.getElem_toArray, List.getElem_cons_succ, List.getElem_cons_zero, List.setIfInBounds_toArray, List.set_cons_zero, List.set_cons_succ]
            refine wpAnyH_ready (rs := [6]) (by kernel_rfl) (by simp) ?_
            refine AllReadyH.cons rfl (fun K hK => ?_) AllReadyH.nil
            go_simp
            refine (join_any P Q G H ra rn rc _ 2 2 [au, bu] HU.out.1.1 _ hI5).mono ?_
            rintro e1 w6 ⟨rfl, hw6⟩
            rw [ECU.out]
            go_wp2_with fail
            clear hI5
            replace hPc := hPc.same hw6
            replace hI12 := hI12.same hw6
            refine hK.out _ _ ?_ (fun hHeld => ?_)
            · exact TD.same (by with_reducible assumption) (by with_reducible assumption)
            clear hK K
            try simp only [Act.put, List.getElem_toArray, List.getElem_cons_succ, List.getElem_cons_zero, List.setIfInBounds_toArray, List.set_cons_zero, List.set_cons_succ]
            refine wpAnyH_ready (rs := [13]) (by kernel_rfl) (by simp) ?_
            refine AllReadyH.cons rfl (fun K hK => ?_) AllReadyH.nil
            go_simp
            refine (join_any P Q G H ra rn rc _ 2 2 [av, bv] HU.out.1.1 _ hI12).mono ?_
            rintro e1 w7 ⟨rfl, hw7⟩
            rw [ECV.out]
            go_wp2_with fail
            clear hI12
            replace hPc := hPc.same hw7
            refine hK.out _ _ ?_ (fun hHeld => ?_)
            · exact TD.same (by with_reducible assumption) (by with_reducible assumption)
            clear hK K
            try simp only [Act.put, List.getElem_toArray, List.getElem_cons_succ, List.getElem_cons_zero, List.setIfInBounds_toArray, List.set_cons_zero, List.set_cons_succ]
            refine wpAnyH_take (i := 14) (v := ?_) rfl (by kernel_rfl) (by kernel_rfl) (by kernel_rfl) (fun _ _ _ h => h) (Or.inl ⟨by rfl, ?_⟩) (by assumption) ?_
            rotate_left
            · intro w hSw; (try dsimp only at hSw); go_simp; try with_reducible rfl
            try simp only [Act.put, List.getElem_toArray, List.getElem_cons_succ, List.getElem_cons_zero, List.setIfInBounds_toArray, List.set_cons_zero, List.set_cons_succ]
            refine wpAnyH_ready (rs := [16]) (by kernel_rfl) (by simp) ?_
            refine AllReadyH.cons rfl (fun K hK => ?_) AllReadyH.nil
            have hQ := hPc
            obtain ⟨z0, z1, z2, z3⟩ := hQ
            go_simp
            have hPc := hPc.put (.int .u64 cu) (.int .u64 cv)
            refine hK.out _ _ ?_ (fun hHeld => ?_)
            · exact (TD.set hHeld hNc.1 hNc.2.1 hNc.2.2.1 hNc.2.2.2.1 hNc.2.2.2.2 _).set hNc.1 hNc.2.1 hNc.2.2.1 hNc.2.2.2.1 hNc.2.2.2.2 _
            clear hK K
            try simp only [Act.put, List.getElem_toArray, List.getElem_cons_succ, List.getElem_cons_zero, List.setIfInBounds_toArray, List.set_cons_zero, List.set_cons_succ]
            refine wpAnyH_done (by kernel_rfl) ?_ _
            go_wp2_with fail
            go_meet
            exact ⟨cx, rfl, hPc.u, hPc.v, hHeld⟩
      · go_simp
        have hw4 := (Same.refl Wd).alloc (.cells #[.int .u64 av, .int .u64 bv] 22)
        have hI12 := ints_pair Wd 22 av bv HUl.out.2.1 HUl.out.2.2.2
        obtain ⟨w4, eA⟩ : ∃ wA, Wd.alloc (.cells #[.int .u64 av, .int .u64 bv] 22) = wA := ⟨_, rfl⟩
        obtain ⟨i12, eD⟩ : ∃ dx, Wd.heap.size = dx := ⟨_, rfl⟩
        rw [eA] at hw4 hI12 ⊢
        rw [eD] at hI12 ⊢
        clear eA eD
        refine hK.out _ _ ?_ (fun hHeld => ?_)
        · exact TD.same (by with_reducible assumption) (by with_reducible assumption)
        clear hK K
        try simp only [Act.put, List.getElem_toArray, List.getElem_cons_succ, List.getElem_cons_zero, List.setIfInBounds_toArray, List.set_cons_zero, List.set_cons_succ]
        refine wpAnyH_ready (rs := [5, 15]) (by kernel_rfl) (by simp) ?_
        refine AllReadyH.cons rfl (fun K hK => ?_) (AllReadyH.cons rfl (fun K hK => ?_) AllReadyH.nil)
        · go_simp
          have hw5 := (Same.refl w4).alloc (.cells #[.int .u64 au, .int .u64 bu] 22)
          have hI5 := ints_pair w4 22 au bu HUl.out.1 HUl.out.2.2.1
          obtain ⟨w5, eA⟩ : ∃ wA, w4.alloc (.cells #[.int .u64 au, .int .u64 bu] 22) = wA := ⟨_, rfl⟩
          obtain ⟨i5, eD⟩ : ∃ dx, w4.heap.size = dx := ⟨_, rfl⟩
          rw [eA] at hw5 hI5 ⊢
          rw [eD] at hI5 ⊢
          clear eA eD
          replace hI12 := hI12.same hw5
          refine hK.out _ _ ?_ (fun hHeld => ?_)
          · exact TD.same (by with_reducible assumption) (by with_reducible assumption)
          clear hK K
          try simp only [Act.put, List.getElem_toArray, List.getElem_cons_succ, List.getElem_cons_zero, List.setIfInBounds_toArray, List.set_cons_zero, List.set_cons_succ]
          refine wpAnyH_ready (rs := [6, 15]) (by kernel_rfl) (by simp) ?_
          refine AllReadyH.cons rfl (fun K hK => ?_) (AllReadyH.cons rfl (fun K hK => ?_) AllReadyH.nil)
          · go_simp
            refine (join_any P Q G H ra rn rc _ 2 2 [au, bu] HU.out.1.1 _ hI5).mono ?_
            rintro e1 w6 ⟨rfl, hw6⟩
            rw [ECU.out]
            go_wp2_with fail
            clear hI5
            replace hI12 := hI12.same hw6
            refine hK.out _ _ ?_ (fun hHeld => ?_)
            · exact TD.same (by with_reducible assumption) (by with_reducible assumption)
            clear hK K
            try simp only [Act.put, List.getElem_toArray, List.getElem_cons_succ, List.getElem_cons_zero, List.setIfInBounds_toArray, List.set_cons_zero, List.set_cons_succ]
            refine wpAnyH_ready (rs := [13, 15]) (by kernel_rfl) (by simp) ?_
            refine AllReadyH.cons rfl (fun K hK => ?_) (AllReadyH.cons rfl (fun K hK => ?_) AllReadyH.nil)
            · go_simp
              refine (join_any P Q G H ra rn rc _ 2 2 [av, bv] HU.out.1.1 _ hI12).mono ?_
              rintro e1 w7 ⟨rfl, hw7⟩
              rw [ECV.out]
              go_wp2_with fail
              clear hI12
              refine hK.out _ _ ?_ (fun hHeld => ?_)
              · exact TD.same (by with_reducible assumption) (by with_reducible assumption)
              clear hK K
              try simp only [Act.put, List.getElem_toArray, List.getElem_cons_succ, List.getElem_cons_zero, List.setIfInBounds_toArray, List.set_cons_zero, List.set_cons_succ]
              refine wpAnyH_take (i := 14) (v := ?_) rfl (by kernel_rfl) (by kernel_rfl) (by kernel_rfl) (fun _ _ _ h => h) (Or.inl ⟨by rfl, ?_⟩) (by assumption) ?_
              rotate_left
              · intro w hSw; (try dsimp only at hSw); go_simp; try with_reducible rfl
              try simp only [Act.put, List.getElem_toArray, List.getElem_cons_succ, List.getElem_cons_zero, List.setIfInBounds_toArray, List.set_cons_zero, List.set_cons_succ]
              refine wpAnyH_ready (rs := [15]) (by kernel_rfl) (by simp) ?_
              refine AllReadyH.cons rfl (fun K hK => ?_) AllReadyH.nil
              go_simp
              have hSc := (Same.refl w7).alloc (.cells #[.int .u64 0, .int .u64 0] 27)
              have hPc := PairAt.new w7 27 (.int .u64 0) (.int .u64 0)
              have hNc : w7.heap.size ≠ gx ∧ w7.heap.size ≠ xx ∧ w7.heap.size ≠ ax ∧ w7.heap.size ≠ bx ∧ w.heap.size ≤ w7.heap.size := ⟨World.new_ne w7 ⟨gx, 0, none⟩ (by assumption : TD w gx xx ax bx P Q G H ra rn rc x au av bu bv w7).2.2.2.2.2.1, World.new_ne w7 ⟨xx, 0, none⟩ (by assumption : TD w gx xx ax bx P Q G H ra rn rc x au av bu bv w7).2.2.2.2.1, World.new_ne w7 ⟨ax, 0, none⟩ (by assumption : TD w gx xx ax bx P Q G H ra rn rc x au av bu bv w7).1, World.new_ne w7 ⟨bx, 0, none⟩ (by assumption : TD w gx xx ax bx P Q G H ra rn rc x au av bu bv w7).2.2.1, (by assumption : TD w gx xx ax bx P Q G H ra rn rc x au av bu bv w7).base.size⟩
              obtain ⟨wc, eA⟩ : ∃ wA, w7.alloc (.cells #[.int .u64 0, .int .u64 0] 27) = wA := ⟨_, rfl⟩
              obtain ⟨cx, eD⟩ : ∃ dx, w7.heap.size = dx := ⟨_, rfl⟩
              rw [eA] at hSc hPc ⊢
              rw [eD] at hPc hNc ⊢
              clear eA eD
              refine hK.out _ _ ?_ (fun hHeld => ?_)
              · exact TD.same (by with_reducible assumption) (by with_reducible assumption)
              clear hK K
              try simp only [Act.put, List.getElem_toArray, List.getElem_cons_succ, List.getElem_cons_zero, List.setIfInBounds_toArray, List.set_cons_zero, List.set_cons_succ]
              refine wpAnyH_ready (rs := [16]) (by kernel_rfl) (by simp) ?_
              refine AllReadyH.cons rfl (fun K hK => ?_) AllReadyH.nil
              have hQ := hPc
              obtain ⟨z0, z1, z2, z3⟩ := hQ
              go_simp
              have hPc := hPc.put (.int .u64 cu) (.int .u64 cv)
              refine hK.out _ _ ?_ (fun hHeld => ?_)
              · exact (TD.set hHeld hNc.1 hNc.2.1 hNc.2.2.1 hNc.2.2.2.1 hNc.2.2.2.2 _).set hNc.1 hNc.2.1 hNc.2.2.1 hNc.2.2.2.1 hNc.2.2.2.2 _
              clear hK K
              try simp only [Act.put, List.getElem_toArray, List.getElem_cons_succ, List.getElem_cons_zero, List.setIfInBounds_toArray, List.set_cons_zero, List.set_cons_succ]
              refine wpAnyH_done (by kernel_rfl) ?_ _
              go_wp2_with fail
              go_meet
              exact ⟨cx, rfl, hPc.u, hPc.v, hHeld⟩
            · go_simp
              have hSc := (Same.refl w6).alloc (.cells #[.int .u64 0, .int .u64 0] 27)
              have hPc := PairAt.new w6 27 (.int .u64 0) (.int .u64 0)
              have hNc : w6.heap.size ≠ gx ∧ w6.heap.size ≠ xx ∧ w6.heap.size ≠ ax ∧ w6.heap.size ≠ bx ∧ w.heap.size ≤ w6.heap.size := ⟨World.new_ne w6 ⟨gx, 0, none⟩ (by assumption : TD w gx xx ax bx P Q G H ra rn rc x au av bu bv w6).2.2.2.2.2.1, World.new_ne w6 ⟨xx, 0, none⟩ (by assumption : TD w gx xx ax bx P Q G H ra rn rc x au av bu bv w6).2.2.2.2.1, World.new_ne w6 ⟨ax, 0, none⟩ (by assumption : TD w gx xx ax bx P Q G H ra rn rc x au av bu bv w6).1, World.new_ne w6 ⟨bx, 0, none⟩ (by assumption : TD w gx xx ax bx P Q G H ra rn rc x au av bu bv w6).2.2.1, (by assumption : TD w gx xx ax bx P Q G H ra rn rc x au av bu bv w6).base.size⟩
              obtain ⟨wc, eA⟩ : ∃ wA, w6.alloc (.cells #[.int .u64 0, .int .u64 0] 27) = wA := ⟨_, rfl⟩
              obtain ⟨cx, eD⟩ : ∃ dx, w6.heap.size = dx := ⟨_, rfl⟩
              rw [eA] at hSc hPc ⊢
              rw [eD] at hPc hNc ⊢
              clear eA eD
              replace hI12 := hI12.same hSc
              refine hK.out _ _ ?_ (fun hHeld => ?_)
              · exact TD.same (by with_reducible assumption) (by with_reducible assumption)
              clear hK K
              try simp only [Act.put, List.getElem_toArray, List.getElem_cons_succ, List.getElem_cons_zero, List.setIfInBounds_toArray, List.set_cons_zero, List.set_cons_succ]
              refine wpAnyH_ready (rs := [13]) (by kernel_rfl) (by simp) ?_
              refine AllReadyH.cons rfl (fun K hK => ?_) AllReadyH.nil
              go_simp
              refine (join_any P Q G H ra rn rc _ 2 2 [av, bv] HU.out.1.1 _ hI12).mono ?_
              rintro e1 w7 ⟨rfl, hw7⟩
              rw [ECV.out]
              go_wp2_with fail
              clear hI12
              replace hPc := hPc.same hw7
              refine hK.out _ _ ?_ (fun hHeld => ?_)
              · exact TD.same (by with_reducible assumption) (by with_reducible assumption)
              clear hK K
              try simp only [Act.put, List.getElem_toArray, List.getElem_cons_succ, List.getElem_cons_zero, List.setIfInBounds_toArray, List.set_cons_zero, List.set_cons_succ]
              refine wpAnyH_take (i := 14) (v := ?_) rfl (by kernel_rfl) (by kernel_rfl) (by kernel_rfl) (fun _ _ _ h => h) (Or.inl ⟨by rfl, ?_⟩) (by assumption) ?_
              rotate_left
              · intro w hSw; (try dsimp only at hSw); go_simp; try with_reducible rfl
              try simp only [Act.put, List.getElem_toArray, List.getElem_cons_succ, List.getElem_cons_zero, List.setIfInBounds_toArray, List.set_cons_zero, List.set_cons_succ]
              refine wpAnyH_ready (rs := [16]) (by kernel_rfl) (by simp) ?_
              refine AllReadyH.cons rfl (fun K hK => ?_) AllReadyH.nil
              have hQ := hPc
              obtain ⟨z0, z1, z2, z3⟩ := hQ
              go_simp
              have hPc := hPc.put (.int .u64 cu) (.int .u64 cv)
              refine hK.out _ _ ?_ (fun hHeld => ?_)
              · exact (TD.set hHeld hNc.1 hNc.2.1 hNc.2.2.1 hNc.2.2.2.1 hNc.2.2.2.2 _).set hNc.1 hNc.2.1 hNc.2.2.1 hNc.2.2.2.1 hNc.2.2.2.2 _
              clear hK K
              try simp only [Act.put, List.getElem_toArray, List.getElem_cons_succ, List.getElem_cons_zero, List.setIfInBounds_toArray, List.set_cons_zero, List.set_cons_succ]
              refine wpAnyH_done (by kernel_rfl) ?_ _
              go_wp2_with fail
              go_meet
              exact ⟨cx, rfl, hPc.u, hPc.v, hHeld⟩
          · go_simp
            have hSc := (Same.refl w5).alloc (.cells #[.int .u64 0, .int .u64 0] 27)
            have hPc := PairAt.new w5 27 (.int .u64 0) (.int .u64 0)
            have hNc : w5.heap.size ≠ gx ∧ w5.heap.size ≠ xx ∧ w5.heap.size ≠ ax ∧ w5.heap.size ≠ bx ∧ w.heap.size ≤ w5.heap.size := ⟨World.new_ne w5 ⟨gx, 0, none⟩ (by assumption : TD w gx xx ax bx P Q G H ra rn rc x au av bu bv w5).2.2.2.2.2.1, World.new_ne w5 ⟨xx, 0, none⟩ (by assumption : TD w gx xx ax bx P Q G H ra rn rc x au av bu bv w5).2.2.2.2.1, World.new_ne w5 ⟨ax, 0, none⟩ (by assumption : TD w gx xx ax bx P Q G H ra rn rc x au av bu bv w5).1, World.new_ne w5 ⟨bx, 0, none⟩ (by assumption : TD w gx xx ax bx P Q G H ra rn rc x au av bu bv w5).2.2.1, (by assumption : TD w gx xx ax bx P Q G H ra rn rc x au av bu bv w5).base.size⟩
            obtain ⟨wc, eA⟩ : ∃ wA, w5.alloc (.cells #[.int .u64 0, .int .u64 0] 27) = wA := ⟨_, rfl⟩
            obtain ⟨cx, eD⟩ : ∃ dx, w5.heap.size = dx := ⟨_, rfl⟩
            rw [eA] at hSc hPc ⊢
            rw [eD] at hPc hNc ⊢
            clear eA eD
            replace hI12 := hI12.same hSc
            replace hI5 := hI5.same hSc
            refine hK.out _ _ ?_ (fun hHeld => ?_)
            · exact TD.same (by with_reducible assumption) (by with_reducible assumption)
            clear hK K
            try simp only [Act.put, List.getElem_toArray, List.getElem_cons_succ, List.getElem_cons_zero, List.setIfInBounds_toArray, List.set_cons_zero, List.set_cons_succ]
            refine wpAnyH_ready (rs := [6]) (by kernel_rfl) (by simp) ?_
            refine AllReadyH.cons rfl (fun K hK => ?_) AllReadyH.nil
            go_simp
            refine (join_any P Q G H ra rn rc _ 2 2 [au, bu] HU.out.1.1 _ hI5).mono ?_
            rintro e1 w6 ⟨rfl, hw6⟩
            rw [ECU.out]
            go_wp2_with fail
            clear hI5
            replace hI12 := hI12.same hw6
            replace hPc := hPc.same hw6
            refine hK.out _ _ ?_ (fun hHeld => ?_)
            · exact TD.same (by with_reducible assumption) (by with_reducible assumption)
            clear hK K
            try simp only [Act.put, List.getElem_toArray, List.getElem_cons_succ, List.getElem_cons_zero, List.setIfInBounds_toArray, List.set_cons_zero, List.set_cons_succ]
            refine wpAnyH_ready (rs := [13]) (by kernel_rfl) (by simp) ?_
            refine AllReadyH.cons rfl (fun K hK => ?_) AllReadyH.nil
            go_simp
            refine (join_any P Q G H ra rn rc _ 2 2 [av, bv] HU.out.1.1 _ hI12).mono ?_
            rintro e1 w7 ⟨rfl, hw7⟩
            rw [ECV.out]
            go_wp2_with fail
            clear hI12
            replace hPc := hPc.same hw7
            refine hK.out _ _ ?_ (fun hHeld => ?_)
            · exact TD.same (by with_reducible assumption) (by with_reducible assumption)
            clear hK K
            try simp only [Act.put, List.getElem_toArray, List.getElem_cons_succ, List.getElem_cons_zero, List.setIfInBounds_toArray, List.set_cons_zero, List.set_cons_succ]
            refine wpAnyH_take (i := 14) (v := ?_) rfl (by kernel_rfl) (by kernel_rfl) (by kernel_rfl) (fun _ _ _ h => h) (Or.inl ⟨by rfl, ?_⟩) (by assumption) ?_
            rotate_left
            · intro w hSw; (try dsimp only at hSw); go_simp; try with_reducible rfl
            try simp only [Act.put, List.getElem_toArray, List.getElem_cons_succ, List.getElem_cons_zero, List.setIfInBounds_toArray, List.set_cons_zero, List.set_cons_succ]
            refine wpAnyH_ready (rs := [16]) (by kernel_rfl) (by simp) ?_
            refine AllReadyH.cons rfl (fun K hK => ?_) AllReadyH.nil
            have hQ := hPc
            obtain ⟨z0, z1, z2, z3⟩ := hQ
            go_simp
            have hPc := hPc.put (.int .u64 cu) (.int .u64 cv)
            refine hK.out _ _ ?_ (fun hHeld => ?_)
            · exact (TD.set hHeld hNc.1 hNc.2.1 hNc.2.2.1 hNc.2.2.2.1 hNc.2.2.2.2 _).set hNc.1 hNc.2.1 hNc.2.2.1 hNc.2.2.2.1 hNc.2.2.2.2 _
            clear hK K
            try simp only [Act.put, List.getElem_toArray, List.getElem_cons_succ, List.getElem_cons_zero, List.setIfInBounds_toArray, List.set_cons_zero, List.set_cons_succ]
            refine wpAnyH_done (by kernel_rfl) ?_ _
            go_wp2_with fail
            go_meet
            exact ⟨cx, rfl, hPc.u, hPc.v, hHeld⟩
        · go_simp
          have hSc := (Same.refl w4).alloc (.cells #[.int .u64 0, .int .u64 0] 27)
          have hPc := PairAt.new w4 27 (.int .u64 0) (.int .u64 0)
          have hNc : w4.heap.size ≠ gx ∧ w4.heap.size ≠ xx ∧ w4.heap.size ≠ ax ∧ w4.heap.size ≠ bx ∧ w.heap.size ≤ w4.heap.size := ⟨World.new_ne w4 ⟨gx, 0, none⟩ (by assumption : TD w gx xx ax bx P Q G H ra rn rc x au av bu bv w4).2.2.2.2.2.1, World.new_ne w4 ⟨xx, 0, none⟩ (by assumption : TD w gx xx ax bx P Q G H ra rn rc x au av bu bv w4).2.2.2.2.1, World.new_ne w4 ⟨ax, 0, none⟩ (by assumption : TD w gx xx ax bx P Q G H ra rn rc x au av bu bv w4).1, World.new_ne w4 ⟨bx, 0, none⟩ (by assumption : TD w gx xx ax bx P Q G H ra rn rc x au av bu bv w4).2.2.1, (by assumption : TD w gx xx ax bx P Q G H ra rn rc x au av bu bv w4).base.size⟩
          obtain ⟨wc, eA⟩ : ∃ wA, w4.alloc (.cells #[.int .u64 0, .int .u64 0] 27) = wA := ⟨_, rfl⟩
          obtain ⟨cx, eD⟩ : ∃ dx, w4.heap.size = dx := ⟨_, rfl⟩
          rw [eA] at hSc hPc ⊢
          rw [eD] at hPc hNc ⊢
          clear eA eD
          replace hI12 := hI12.same hSc
          refine hK.out _ _ ?_ (fun hHeld => ?_)
          · exact TD.same (by with_reducible assumption) (by with_reducible assumption)
          clear hK K
          try simp only [Act.put, List.getElem_toArray, List.getElem_cons_succ, List.getElem_cons_zero, List.setIfInBounds_toArray, List.set_cons_zero, List.set_cons_succ]
          refine wpAnyH_ready (rs := [5]) (by kernel_rfl) (by simp) ?_
          refine AllReadyH.cons rfl (fun K hK => ?_) AllReadyH.nil
          go_simp
          have hw5 := (Same.refl wc).alloc (.cells #[.int .u64 au, .int .u64 bu] 22)
          have hI5 := ints_pair wc 22 au bu HUl.out.1 HUl.out.2.2.1
          obtain ⟨w5, eA⟩ : ∃ wA, wc.alloc (.cells #[.int .u64 au, .int .u64 bu] 22) = wA := ⟨_, rfl⟩
          obtain ⟨i5, eD⟩ : ∃ dx, wc.heap.size = dx := ⟨_, rfl⟩
          rw [eA] at hw5 hI5 ⊢
          rw [eD] at hI5 ⊢
          clear eA eD
          replace hI12 := hI12.same hw5
          replace hPc := hPc.same hw5
          refine hK.out _ _ ?_ (fun hHeld => ?_)
          · exact TD.same (by with_reducible assumption) (by with_reducible assumption)
          clear hK K
          try simp only [Act.put, List.getElem_toArray, List.getElem_cons_succ, List.getElem_cons_zero, List.setIfInBounds_toArray, List.set_cons_zero, List.set_cons_succ]
          refine wpAnyH_ready (rs := [6]) (by kernel_rfl) (by simp) ?_
          refine AllReadyH.cons rfl (fun K hK => ?_) AllReadyH.nil
          go_simp
          refine (join_any P Q G H ra rn rc _ 2 2 [au, bu] HU.out.1.1 _ hI5).mono ?_
          rintro e1 w6 ⟨rfl, hw6⟩
          rw [ECU.out]
          go_wp2_with fail
          clear hI5
          replace hI12 := hI12.same hw6
          replace hPc := hPc.same hw6
          refine hK.out _ _ ?_ (fun hHeld => ?_)
          · exact TD.same (by with_reducible assumption) (by with_reducible assumption)
          clear hK K
          try simp only [Act.put, List.getElem_toArray, List.getElem_cons_succ, List.getElem_cons_zero, List.setIfInBounds_toArray, List.set_cons_zero, List.set_cons_succ]
          refine wpAnyH_ready (rs := [13]) (by kernel_rfl) (by simp) ?_
          refine AllReadyH.cons rfl (fun K hK => ?_) AllReadyH.nil
          go_simp
          refine (join_any P Q G H ra rn rc _ 2 2 [av, bv] HU.out.1.1 _ hI12).mono ?_
          rintro e1 w7 ⟨rfl, hw7⟩
          rw [ECV.out]
          go_wp2_with fail
          clear hI12
          replace hPc := hPc.same hw7
          refine hK.out _ _ ?_ (fun hHeld => ?_)
          · exact TD.same (by with_reducible assumption) (by with_reducible assumption)
          clear hK K
          try simp only [Act.put, List.getElem_toArray, List.getElem_cons_succ, List.getElem_cons_zero, List.setIfInBounds_toArray, List.set_cons_zero, List.set_cons_succ]
          refine wpAnyH_take (i := 14) (v := ?_) rfl (by kernel_rfl) (by kernel_rfl) (by kernel_rfl) (fun _ _ _ h => h) (Or.inl ⟨by rfl, ?_⟩) (by assumption) ?_
          rotate_left
          · intro w hSw; (try dsimp only at hSw); go_simp; try with_reducible rfl
          try simp only [Act.put, List.getElem_toArray, List.getElem_cons_succ, List.getElem_cons_zero, List.setIfInBounds_toArray, List.set_cons_zero, List.set_cons_succ]
          refine wpAnyH_ready (rs := [16]) (by kernel_rfl) (by simp) ?_
          refine AllReadyH.cons rfl (fun K hK => ?_) AllReadyH.nil
          have hQ := hPc
          obtain ⟨z0, z1, z2, z3⟩ := hQ
          go_simp
          have hPc := hPc.put (.int .u64 cu) (.int .u64 cv)
          refine hK.out _ _ ?_ (fun hHeld => ?_)
          · exact (TD.set hHeld hNc.1 hNc.2.1 hNc.2.2.1 hNc.2.2.2.1 hNc.2.2.2.2 _).set hNc.1 hNc.2.1 hNc.2.2.1 hNc.2.2.2.1 hNc.2.2.2.2 _
          clear hK K
          try simp only [Act.put, List.getElem_toArray, List.getElem_cons_succ, List.getElem_cons_zero, List.setIfInBounds_toArray, List.set_cons_zero, List.set_cons_succ]
          refine wpAnyH_done (by kernel_rfl) ?_ _
          go_wp2_with fail
          go_meet
          exact ⟨cx, rfl, hPc.u, hPc.v, hHeld⟩
      · go_simp
        have hSc := (Same.refl Wd).alloc (.cells #[.int .u64 0, .int .u64 0] 27)
        have hPc := PairAt.new Wd 27 (.int .u64 0) (.int .u64 0)
        have hNc : Wd.heap.size ≠ gx ∧ Wd.heap.size ≠ xx ∧ Wd.heap.size ≠ ax ∧ Wd.heap.size ≠ bx ∧ w.heap.size ≤ Wd.heap.size := ⟨World.new_ne Wd ⟨gx, 0, none⟩ (by assumption : TD w gx xx ax bx P Q G H ra rn rc x au av bu bv Wd).2.2.2.2.2.1, World.new_ne Wd ⟨xx, 0, none⟩ (by assumption : TD w gx xx ax bx P Q G H ra rn rc x au av bu bv Wd).2.2.2.2.1, World.new_ne Wd ⟨ax, 0, none⟩ (by assumption : TD w gx xx ax bx P Q G H ra rn rc x au av bu bv Wd).1, World.new_ne Wd ⟨bx, 0, none⟩ (by assumption : TD w gx xx ax bx P Q G H ra rn rc x au av bu bv Wd).2.2.1, (by assumption : TD w gx xx ax bx P Q G H ra rn rc x au av bu bv Wd).base.size⟩
        obtain ⟨wc, eA⟩ : ∃ wA, Wd.alloc (.cells #[.int .u64 0, .int .u64 0] 27) = wA := ⟨_, rfl⟩
        obtain ⟨cx, eD⟩ : ∃ dx, Wd.heap.size = dx := ⟨_, rfl⟩
        rw [eA] at hSc hPc ⊢
        rw [eD] at hPc hNc ⊢
        clear eA eD
        refine hK.out _ _ ?_ (fun hHeld => ?_)
        · exact TD.same (by with_reducible assumption) (by with_reducible assumption)
        clear hK K
        try simp only [Act.put, List.getElem_toArray, List.getElem_cons_succ, List.getElem_cons_zero, List.setIfInBounds_toArray, List.set_cons_zero, List.set_cons_succ]
        refine wpAnyH_ready (rs := [5, 12]) (by kernel_rfl) (by simp) ?_
        refine AllReadyH.cons rfl (fun K hK => ?_) (AllReadyH.cons rfl (fun K hK => ?_) AllReadyH.nil)
        · go_simp
          have hw4 := (Same.refl wc).alloc (.cells #[.int .u64 au, .int .u64 bu] 22)
          have hI5 := ints_pair wc 22 au bu HUl.out.1 HUl.out.2.2.1
          obtain ⟨w4, eA⟩ : ∃ wA, wc.alloc (.cells #[.int .u64 au, .int .u64 bu] 22) = wA := ⟨_, rfl⟩
          obtain ⟨i5, eD⟩ : ∃ dx, wc.heap.size = dx := ⟨_, rfl⟩
          rw [eA] at hw4 hI5 ⊢
          rw [eD] at hI5 ⊢
          clear eA eD
          replace hPc := hPc.same hw4
          refine hK.out _ _ ?_ (fun hHeld => ?_)
          · exact TD.same (by with_reducible assumption) (by with_reducible assumption)
          clear hK K
          try simp only [Act.put, List.getElem_toArray, List.getElem_cons_succ, List.getElem_cons_zero, List.setIfInBounds_toArray, List.set_cons_zero, List.set_cons_succ]
          refine wpAnyH_ready (rs := [6, 12]) (by kernel_rfl) (by simp) ?_
          refine AllReadyH.cons rfl (fun K hK => ?_) (AllReadyH.cons rfl (fun K hK => ?_) AllReadyH.nil)
          · go_simp
            refine (join_any P Q G H ra rn rc _ 2 2 [au, bu] HU.out.1.1 _ hI5).mono ?_
            rintro e1 w5 ⟨rfl, hw5⟩
            rw [ECU.out]
            go_wp2_with fail
            clear hI5
            replace hPc := hPc.same hw5
            refine hK.out _ _ ?_ (fun hHeld => ?_)
            · exact TD.same (by with_reducible assumption) (by with_reducible assumption)
            clear hK K
            try simp only [Act.put, List.getElem_toArray, List.getElem_cons_succ, List.getElem_cons_zero, List.setIfInBounds_toArray, List.set_cons_zero, List.set_cons_succ]
            refine wpAnyH_ready (rs := [12]) (by kernel_rfl) (by simp) ?_
            refine AllReadyH.cons rfl (fun K hK => ?_) AllReadyH.nil
            go_simp
            have hw6 := (Same.refl w5).alloc (.cells #[.int .u64 av, .int .u64 bv] 22)
            have hI12 := ints_pair w5 22 av bv HUl.out.2.1 HUl.out.2.2.2
            obtain ⟨w6, eA⟩ : ∃ wA, w5.alloc (.cells #[.int .u64 av, .int .u64 bv] 22) = wA := ⟨_, rfl⟩
            obtain ⟨i12, eD⟩ : ∃ dx, w5.heap.size = dx := ⟨_, rfl⟩
            rw [eA] at hw6 hI12 ⊢
            rw [eD] at hI12 ⊢
            clear eA eD
            replace hPc := hPc.same hw6
            refine hK.out _ _ ?_ (fun hHeld => ?_)
            · exact TD.same (by with_reducible assumption) (by with_reducible assumption)
            clear hK K
            try simp only [Act.put, List.getElem_toArray, List.getElem_cons_succ, List.getElem_cons_zero, List.setIfInBounds_toArray, List.set_cons_zero, List.set_cons_succ]
            refine wpAnyH_ready (rs := [13]) (by kernel_rfl) (by simp) ?_
            refine AllReadyH.cons rfl (fun K hK => ?_) AllReadyH.nil
            go_simp
            refine (join_any P Q G H ra rn rc _ 2 2 [av, bv] HU.out.1.1 _ hI12).mono ?_
            rintro e1 w7 ⟨rfl, hw7⟩
            rw [ECV.out]
            go_wp2_with fail
            clear hI12
            replace hPc := hPc.same hw7
            refine hK.out _ _ ?_ (fun hHeld => ?_)
            · exact TD.same (by with_reducible assumption) (by with_reducible assumption)
            clear hK K
            try simp only [Act.put, List.getElem_toArray, List.getElem_cons_succ, List.getElem_cons_zero, List.setIfInBounds_toArray, List.set_cons_zero, List.set_cons_succ]
            refine wpAnyH_take (i := 14) (v := ?_) rfl (by kernel_rfl) (by kernel_rfl) (by kernel_rfl) (fun _ _ _ h => h) (Or.inl ⟨by rfl, ?_⟩) (by assumption) ?_
            rotate_left
            · intro w hSw; (try dsimp only at hSw); go_simp; try with_reducible rfl
            try simp only [Act.put, List.getElem_toArray, List.getElem_cons_succ, List.getElem_cons_zero, List.setIfInBounds_toArray, List.set_cons_zero, List.set_cons_succ]
            refine wpAnyH_ready (rs := [16]) (by kernel_rfl) (by simp) ?_
            refine AllReadyH.cons rfl (fun K hK => ?_) AllReadyH.nil
            have hQ := hPc
            obtain ⟨z0, z1, z2, z3⟩ := hQ
            go_simp
            have hPc := hPc.put (.int .u64 cu) (.int .u64 cv)
            refine hK.out _ _ ?_ (fun hHeld => ?_)
            · exact (TD.set hHeld hNc.1 hNc.2.1 hNc.2.2.1 hNc.2.2.2.1 hNc.2.2.2.2 _).set hNc.1 hNc.2.1 hNc.2.2.1 hNc.2.2.2.1 hNc.2.2.2.2 _
            clear hK K
            try simp only [Act.put, List.getElem_toArray, List.getElem_cons_succ, List.getElem_cons_zero, List.setIfInBounds_toArray, List.set_cons_zero, List.set_cons_succ]
            refine wpAnyH_done (by kernel_rfl) ?_ _
            go_wp2_with fail
            go_meet
            exact ⟨cx, rfl, hPc.u, hPc.v, hHeld⟩
          · go_simp
            have hw5 := (Same.refl w4).alloc (.cells #[.int .u64 av, .int .u64 bv] 22)
            have hI12 := ints_pair w4 22 av bv HUl.out.2.1 HUl.out.2.2.2
            obtain ⟨w5, eA⟩ : ∃ wA, w4.alloc (.cells #[.int .u64 av, .int .u64 bv] 22) = wA := ⟨_, rfl⟩
            obtain ⟨i12, eD⟩ : ∃ dx, w4.heap.size = dx := ⟨_, rfl⟩
            rw [eA] at hw5 hI12 ⊢
            rw [eD] at hI12 ⊢
            clear eA eD
            replace hPc := hPc.same hw5
            replace hI5 := hI5.same hw5
            refine hK.out _ _ ?_ (fun hHeld => ?_)
            · exact TD.same (by with_reducible assumption) (by with_reducible assumption)
            clear hK K
            try simp only [Act.put, List.getElem_toArray, List.getElem_cons_succ, List.getElem_cons_zero, List.setIfInBounds_toArray, List.set_cons_zero, List.set_cons_succ]
            refine wpAnyH_ready (rs := [6]) (by kernel_rfl) (by simp) ?_
            refine AllReadyH.cons rfl (fun K hK => ?_) AllReadyH.nil
            go_simp
            refine (join_any P Q G H ra rn rc _ 2 2 [au, bu] HU.out.1.1 _ hI5).mono ?_
            rintro e1 w6 ⟨rfl, hw6⟩
            rw [ECU.out]
            go_wp2_with fail
            clear hI5
            replace hPc := hPc.same hw6
            replace hI12 := hI12.same hw6
            refine hK.out _ _ ?_ (fun hHeld => ?_)
            · exact TD.same (by with_reducible assumption) (by with_reducible assumption)
            clear hK K
            try simp only [Act.put, List.getElem_toArray, List.getElem_cons_succ, List.getElem_cons_zero, List.setIfInBounds_toArray, List.set_cons_zero, List.set_cons_succ]
            refine wpAnyH_ready (rs := [13]) (by kernel_rfl) (by simp) ?_
            refine AllReadyH.cons rfl (fun K hK => ?_) AllReadyH.nil
            go_simp
            refine (join_any P Q G H ra rn rc _ 2 2 [av, bv] HU.out.1.1 _ hI12).mono ?_
            rintro e1 w7 ⟨rfl, hw7⟩
            rw [ECV.out]
            go_wp2_with fail
            clear hI12
            replace hPc := hPc.same hw7
            refine hK.out _ _ ?_ (fun hHeld => ?_)
            · exact TD.same (by with_reducible assumption) (by with_reducible assumption)
            clear hK K
            try simp only [Act.put, List.getElem_toArray, List.getElem_cons_succ, List.getElem_cons_zero, List.setIfInBounds_toArray, List.set_cons_zero, List.set_cons_succ]
            refine wpAnyH_take (i := 14) (v := ?_) rfl (by kernel_rfl) (by kernel_rfl) (by kernel_rfl) (fun _ _ _ h => h) (Or.inl ⟨by rfl, ?_⟩) (by assumption) ?_
            rotate_left
            · intro w hSw; (try dsimp only at hSw); go_simp; try with_reducible rfl
            try simp only [Act.put, List.getElem_toArray, List.getElem_cons_succ, List.getElem_cons_zero, List.setIfInBounds_toArray, List.set_cons_zero, List.set_cons_succ]
            refine wpAnyH_ready (rs := [16]) (by kernel_rfl) (by simp) ?_
            refine AllReadyH.cons rfl (fun K hK => ?_) AllReadyH.nil
            have hQ := hPc
            obtain ⟨z0, z1, z2, z3⟩ := hQ
            go_simp
            have hPc := hPc.put (.int .u64 cu) (.int .u64 cv)
            refine hK.out _ _ ?_ (fun hHeld => ?_)
            · exact (TD.set hHeld hNc.1 hNc.2.1 hNc.2.2.1 hNc.2.2.2.1 hNc.2.2.2.2 _).set hNc.1 hNc.2.1 hNc.2.2.1 hNc.2.2.2.1 hNc.2.2.2.2 _
            clear hK K
            try simp only [Act.put, List.getElem_toArray, List.getElem_cons_succ, List.getElem_cons_zero, List.setIfInBounds_toArray, List.set_cons_zero, List.set_cons_succ]
            refine wpAnyH_done (by kernel_rfl) ?_ _
            go_wp2_with fail
            go_meet
            exact ⟨cx, rfl, hPc.u, hPc.v, hHeld⟩
        · go_simp
          have hw4 := (Same.refl wc).alloc (.cells #[.int .u64 av, .int .u64 bv] 22)
          have hI12 := ints_pair wc 22 av bv HUl.out.2.1 HUl.out.2.2.2
          obtain ⟨w4, eA⟩ : ∃ wA, wc.alloc (.cells #[.int .u64 av, .int .u64 bv] 22) = wA := ⟨_, rfl⟩
          obtain ⟨i12, eD⟩ : ∃ dx, wc.heap.size = dx := ⟨_, rfl⟩
          rw [eA] at hw4 hI12 ⊢
          rw [eD] at hI12 ⊢
          clear eA eD
          replace hPc := hPc.same hw4
          refine hK.out _ _ ?_ (fun hHeld => ?_)
          · exact TD.same (by with_reducible assumption) (by with_reducible assumption)
          clear hK K
          try simp only [Act.put, List.getElem_toArray, List.getElem_cons_succ, List.getElem_cons_zero, List.setIfInBounds_toArray, List.set_cons_zero, List.set_cons_succ]
          refine wpAnyH_ready (rs := [5]) (by kernel_rfl) (by simp) ?_
          refine AllReadyH.cons rfl (fun K hK => ?_) AllReadyH.nil
          go_simp
          have hw5 := (Same.refl w4).alloc (.cells #[.int .u64 au, .int .u64 bu] 22)
          have hI5 := ints_pair w4 22 au bu HUl.out.1 HUl.out.2.2.1
          obtain ⟨w5, eA⟩ : ∃ wA, w4.alloc (.cells #[.int .u64 au, .int .u64 bu] 22) = wA := ⟨_, rfl⟩
          obtain ⟨i5, eD⟩ : ∃ dx, w4.heap.size = dx := ⟨_, rfl⟩
          rw [eA] at hw5 hI5 ⊢
          rw [eD] at hI5 ⊢
          clear eA eD
          replace hPc := hPc.same hw5
          replace hI12 := hI12.same hw5
          refine hK.out _ _ ?_ (fun hHeld => ?_)
          · exact TD.same (by with_reducible assumption) (by with_reducible assumption)
          clear hK K
          try simp only [Act.put, List.getElem_toArray, List.getElem_cons_succ, List.getElem_cons_zero, List.setIfInBounds_toArray, List.set_cons_zero, List.set_cons_succ]
          refine wpAnyH_ready (rs := [6]) (by kernel_rfl) (by simp) ?_
          refine AllReadyH.cons rfl (fun K hK => ?_) AllReadyH.nil
          go_simp
          refine (join_any P Q G H ra rn rc _ 2 2 [au, bu] HU.out.1.1 _ hI5).mono ?_
          rintro e1 w6 ⟨rfl, hw6⟩
          rw [ECU.out]
          go_wp2_with fail
          clear hI5
          replace hPc := hPc.same hw6
          replace hI12 := hI12.same hw6
          refine hK.out _ _ ?_ (fun hHeld => ?_)
          · exact TD.same (by with_reducible assumption) (by with_reducible assumption)
          clear hK K
          try simp only [Act.put, List.getElem_toArray, List.getElem_cons_succ, List.getElem_cons_zero, List.setIfInBounds_toArray, List.set_cons_zero, List.set_cons_succ]
          refine wpAnyH_ready (rs := [13]) (by kernel_rfl) (by simp) ?_
          refine AllReadyH.cons rfl (fun K hK => ?_) AllReadyH.nil
          go_simp
          refine (join_any P Q G H ra rn rc _ 2 2 [av, bv] HU.out.1.1 _ hI12).mono ?_
          rintro e1 w7 ⟨rfl, hw7⟩
          rw [ECV.out]
          go_wp2_with fail
          clear hI12
          replace hPc := hPc.same hw7
          refine hK.out _ _ ?_ (fun hHeld => ?_)
          · exact TD.same (by with_reducible assumption) (by with_reducible assumption)
          clear hK K
          try simp only [Act.put, List.getElem_toArray, List.getElem_cons_succ, List.getElem_cons_zero, List.setIfInBounds_toArray, List.set_cons_zero, List.set_cons_succ]
          refine wpAnyH_take (i := 14) (v := ?_) rfl (by kernel_rfl) (by kernel_rfl) (by kernel_rfl) (fun _ _ _ h => h) (Or.inl ⟨by rfl, ?_⟩) (by assumption) ?_
          rotate_left
          · intro w hSw; (try dsimp only at hSw); go_simp; try with_reducible rfl
          try simp only [Act.put, List.getElem_toArray, List.getElem_cons_succ, List.getElem_cons_zero, List.setIfInBounds_toArray, List.set_cons_zero, List.set_cons_succ]
          refine wpAnyH_ready (rs := [16]) (by kernel_rfl) (by simp) ?_
          refine AllReadyH.cons rfl (fun K hK => ?_) AllReadyH.nil
          have hQ := hPc
          obtain ⟨z0, z1, z2, z3⟩ := hQ
          go_simp
          have hPc := hPc.put (.int .u64 cu) (.int .u64 cv)
          refine hK.out _ _ ?_ (fun hHeld => ?_)
          · exact (TD.set hHeld hNc.1 hNc.2.1 hNc.2.2.1 hNc.2.2.2.1 hNc.2.2.2.2 _).set hNc.1 hNc.2.1 hNc.2.2.1 hNc.2.2.2.1 hNc.2.2.2.2 _
          clear hK K
          try simp only [Act.put, List.getElem_toArray, List.getElem_cons_succ, List.getElem_cons_zero, List.setIfInBounds_toArray, List.set_cons_zero, List.set_cons_succ]
          refine wpAnyH_done (by kernel_rfl) ?_ _
          go_wp2_with fail
          go_meet
          exact ⟨cx, rfl, hPc.u, hPc.v, hHeld⟩
    case rest =>
      obtain ⟨cx, e10, hB4⟩ := hcut
      subst e10
      have HB4 := Lib.hid (TC.same hB4 (drew_same wc))
      clear hB4
      go_upto_region 8 with fail
      refine wp_region_held_drew (S := fun w' => TC w gx xx ax bx cx P Q G H ra rn rc x au av bu bv cu cv w') (by kernel_rfl) HB4.out (fun hHeld => ?_)
      obtain ⟨Wd, eWd⟩ : ∃ Wd, wc.drew = Wd := ⟨_, rfl⟩
      rw [eWd] at hHeld ⊢
      clear eWd
      refine wpAnyH_take (i := 0) (v := ?_) rfl (by kernel_rfl) (by kernel_rfl) (by kernel_rfl) (fun _ _ _ h => h) (Or.inl ⟨by rfl, ?_⟩) (by assumption) ?_
      rotate_left
      · intro w hSw; (try dsimp only at hSw); go_simp; try with_reducible rfl
      try simp only [Act.put, List.getElem_toArray, List.getElem_cons_succ, List.getElem_cons_zero, List.setIfInBounds_toArray, List.set_cons_zero, List.set_cons_succ]
      refine wpAnyH_take (i := 1) (v := ?_) rfl (by kernel_rfl) (by kernel_rfl) (by kernel_rfl) (fun _ _ _ h => h) (Or.inl ⟨by rfl, ?_⟩) (by assumption) ?_
      rotate_left
      · intro w hSw; (try dsimp only at hSw); go_simp; try with_reducible rfl
      try simp only [Act.put, List.getElem_toArray, List.getElem_cons_succ, List.getElem_cons_zero, List.setIfInBounds_toArray, List.set_cons_zero, List.set_cons_succ]
      refine wpAnyH_take (i := 3) (v := ?_) rfl (by kernel_rfl) (by kernel_rfl) (by kernel_rfl) (fun _ _ _ h => h) (Or.inl ⟨by rfl, ?_⟩) (by assumption) ?_
      rotate_left
      · intro w hSw; (try dsimp only at hSw); go_simp; try with_reducible rfl
      try simp only [Act.put, List.getElem_toArray, List.getElem_cons_succ, List.getElem_cons_zero, List.setIfInBounds_toArray, List.set_cons_zero, List.set_cons_succ]
      refine wpAnyH_take (i := 4) (v := ?_) rfl (by kernel_rfl) (by kernel_rfl) (by kernel_rfl) (fun _ _ _ h => h) (Or.inl ⟨by rfl, ?_⟩) (by assumption) ?_
      rotate_left
      · intro w hSw; (try dsimp only at hSw); go_simp; try with_reducible rfl
      try simp only [Act.put, List.getElem_toArray, List.getElem_cons_succ, List.getElem_cons_zero, List.setIfInBounds_toArray, List.set_cons_zero, List.set_cons_succ]
      refine wpAnyH_take (i := 5) (v := ?_) rfl (by kernel_rfl) (by kernel_rfl) (by kernel_rfl) (fun _ _ _ h => h) (Or.inl ⟨by rfl, ?_⟩) (by assumption) ?_
      rotate_left
      · intro w hSw; (try dsimp only at hSw); go_simp; try with_reducible rfl
      try simp only [Act.put, List.getElem_toArray, List.getElem_cons_succ, List.getElem_cons_zero, List.setIfInBounds_toArray, List.set_cons_zero, List.set_cons_succ]
      refine wpAnyH_take (i := 7) (v := ?_) rfl (by kernel_rfl) (by kernel_rfl) (by kernel_rfl) (fun _ _ _ h => h) (Or.inl ⟨by rfl, ?_⟩) (by assumption) ?_
      rotate_left
      · intro w hSw; (try dsimp only at hSw); go_simp; try with_reducible rfl
      try simp only [Act.put, List.getElem_toArray, List.getElem_cons_succ, List.getElem_cons_zero, List.setIfInBounds_toArray, List.set_cons_zero, List.set_cons_succ]
      refine wpAnyH_take (i := 8) (v := ?_) rfl (by kernel_rfl) (by kernel_rfl) (by kernel_rfl) (fun _ _ _ h => h) (Or.inl ⟨by rfl, ?_⟩) (by assumption) ?_
      rotate_left
      · intro w hSw; (try dsimp only at hSw); go_simp; try with_reducible rfl
      try simp only [Act.put, List.getElem_toArray, List.getElem_cons_succ, List.getElem_cons_zero, List.setIfInBounds_toArray, List.set_cons_zero, List.set_cons_succ]
      refine wpAnyH_ready (rs := [2]) (by kernel_rfl) (by simp) ?_
      refine AllReadyH.cons rfl (fun K hK => ?_) AllReadyH.nil
      have hTX : TX Wd gx xx P Q G H ra rn rc x Wd := ⟨hHeld.2.2.2.2.2.2.1, hHeld.2.2.2.2.2.2.2.1, hHeld.2.2.2.2.2.2.2.2.1, hHeld.2.2.2.2.2.2.2.2.2.1, hHeld.2.2.2.2.2.2.2.2.2.2.1, hHeld.2.2.2.2.2.2.2.2.2.2.2.1, Same.refl _⟩
      have hTXh := Lib.hid hTX
      clear hTX
      go_simp
      refine (topen_any P Q G H ra rn rc x cu cv gx xx HU.out.1 HU.out.2.1 HX.out HUc.out.1 HUc.out.2 _ hTXh.out).mono ?_
      rintro e1 w4 ⟨rfl, hw4⟩
      rw [EOC.out]
      go_wp2_with fail
      refine hK.out _ _ ?_ (fun hHeld => ?_)
      · exact TC.same (by with_reducible assumption) (by with_reducible assumption)
      clear hK K
      try simp only [Act.put, List.getElem_toArray, List.getElem_cons_succ, List.getElem_cons_zero, List.setIfInBounds_toArray, List.set_cons_zero, List.set_cons_succ]
      clear hTXh
      refine wpAnyH_ready (rs := [6]) (by kernel_rfl) (by simp) ?_
      refine AllReadyH.cons rfl (fun K hK => ?_) AllReadyH.nil
      have hTX : TX w4 gx xx P Q G H ra rn rc x w4 := ⟨hHeld.2.2.2.2.2.2.1, hHeld.2.2.2.2.2.2.2.1, hHeld.2.2.2.2.2.2.2.2.1, hHeld.2.2.2.2.2.2.2.2.2.1, hHeld.2.2.2.2.2.2.2.2.2.2.1, hHeld.2.2.2.2.2.2.2.2.2.2.2.1, Same.refl _⟩
      have hTXh := Lib.hid hTX
      clear hTX
      go_simp
      refine (topen_any P Q G H ra rn rc x au av gx xx HU.out.1 HU.out.2.1 HX.out HUl.out.1 HUl.out.2.1 _ hTXh.out).mono ?_
      rintro e1 w5 ⟨rfl, hw5⟩
      rw [EOA.out]
      go_wp2_with fail
      refine hK.out _ _ ?_ (fun hHeld => ?_)
      · exact TC.same (by with_reducible assumption) (by with_reducible assumption)
      clear hK K
      try simp only [Act.put, List.getElem_toArray, List.getElem_cons_succ, List.getElem_cons_zero, List.setIfInBounds_toArray, List.set_cons_zero, List.set_cons_succ]
      clear hTXh
      refine wpAnyH_ready (rs := [9]) (by kernel_rfl) (by simp) ?_
      refine AllReadyH.cons rfl (fun K hK => ?_) AllReadyH.nil
      have hTX : TX w5 gx xx P Q G H ra rn rc x w5 := ⟨hHeld.2.2.2.2.2.2.1, hHeld.2.2.2.2.2.2.2.1, hHeld.2.2.2.2.2.2.2.2.1, hHeld.2.2.2.2.2.2.2.2.2.1, hHeld.2.2.2.2.2.2.2.2.2.2.1, hHeld.2.2.2.2.2.2.2.2.2.2.2.1, Same.refl _⟩
      have hTXh := Lib.hid hTX
      clear hTX
      go_simp
      refine (topen_any P Q G H ra rn rc x bu bv gx xx HU.out.1 HU.out.2.1 HX.out HUl.out.2.2.1 HUl.out.2.2.2 _ hTXh.out).mono ?_
      rintro e1 w6 ⟨rfl, hw6⟩
      rw [EOB.out]
      go_wp2_with fail
      refine hK.out _ _ ?_ (fun hHeld => ?_)
      · exact TC.same (by with_reducible assumption) (by with_reducible assumption)
      clear hK K
      try simp only [Act.put, List.getElem_toArray, List.getElem_cons_succ, List.getElem_cons_zero, List.setIfInBounds_toArray, List.set_cons_zero, List.set_cons_succ]
      clear hTXh
      refine wpAnyH_ready (rs := [10]) (by kernel_rfl) (by simp) ?_
      refine AllReadyH.cons rfl (fun K hK => ?_) AllReadyH.nil
      go_simp
      refine hK.out _ _ ?_ (fun hHeld => ?_)
      · exact TC.same (by with_reducible assumption) ((Same.refl _).alloc _)
      clear hK K
      try simp only [Act.put, List.getElem_toArray, List.getElem_cons_succ, List.getElem_cons_zero, List.setIfInBounds_toArray, List.set_cons_zero, List.set_cons_succ]
      refine wpAnyH_ready (rs := [11]) (by kernel_rfl) (by simp) ?_
      refine AllReadyH.cons rfl (fun K hK => ?_) AllReadyH.nil
      go_simp
      refine (join_any P Q G H ra rn rc _ 2 2 [oa, ob] HU.out.1.1 _ (ints_pair _ _ _ _ HOU.out.1 HOU.out.2)).mono ?_
      rintro e1 w7 ⟨rfl, hw7⟩
      rw [EJ.out]
      go_wp2_with fail
      refine hK.out _ _ ?_ (fun hHeld => ?_)
      · exact TC.same (by with_reducible assumption) (by with_reducible assumption)
      clear hK K
      try simp only [Act.put, List.getElem_toArray, List.getElem_cons_succ, List.getElem_cons_zero, List.setIfInBounds_toArray, List.set_cons_zero, List.set_cons_succ]
      refine wpAnyH_take (i := 12) (v := ?_) rfl (by kernel_rfl) (by kernel_rfl) (by kernel_rfl) (fun _ _ _ h => h) (Or.inl ⟨by rfl, ?_⟩) (by assumption) ?_
      rotate_left
      · intro w hSw; (try dsimp only at hSw); go_simp; try with_reducible rfl
      try simp only [Act.put, List.getElem_toArray, List.getElem_cons_succ, List.getElem_cons_zero, List.setIfInBounds_toArray, List.set_cons_zero, List.set_cons_succ]
      refine wpAnyH_take (i := 13) (v := ?_) rfl (by kernel_rfl) (by kernel_rfl) (by kernel_rfl) (fun _ _ _ h => h) (Or.inl ⟨by rfl, ?_⟩) (by assumption) ?_
      rotate_left
      · intro w hSw; (try dsimp only at hSw); go_simp; try with_reducible rfl
      try simp only [Act.put, List.getElem_toArray, List.getElem_cons_succ, List.getElem_cons_zero, List.setIfInBounds_toArray, List.set_cons_zero, List.set_cons_succ]
      refine wpAnyH_done (by kernel_rfl) ?_ _
      go_wp2_with fail
      go_ret
      exact ⟨rfl, hHeld.base⟩
end Go.Proofs.Ytfoncfojljmimaa
