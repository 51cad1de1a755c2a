/- linear.Answer, Draws, Fake, Extract. -/
import Derived.Test.YtlnkpbaibnfhhaaLinEach
import Derived.Deep.RegionHeld3
set_option linter.unusedVariables false
set_option linter.unusedSimpArgs false
namespace Go.Proofs.Ytlnkpbaibnfhhaa
open Go.RowKit NT
theorem par_ge (w : World) (P Q G H : Int) (ra : Option Addr) (rn rc : Nat) (e : Int) : ∃ W gx ex, (w.alloc (.cells #[.int .u64 P, .int .u64 Q, .int .u64 G, .int .u64 H, .slice ra rn rc] 25)).alloc (.cells #[.int .u64 e] 22) = W ∧ w.heap.size = gx ∧ gx + 1 = ex ∧ ES w gx ex P Q G H ra rn rc e W := by
  obtain ⟨W1, gx, e1, e2, hS, c0, c1, c2, c3, c4⟩ := par_box w P Q G H (.slice ra rn rc)
  have hz : W1.heap.size = gx + 1 := by rw [← e1, ← e2]; simp
  have hS1 : Same W1 (W1.alloc (.cells #[.int .u64 e] 22)) := (Same.refl W1).alloc _
  exact ⟨_, gx, gx + 1, by rw [e1], e2, rfl, by rw [← hz]; simp [World.cell?_alloc_new], same_cell hS1 c0, same_cell hS1 c1, same_cell hS1 c2, same_cell hS1 c3, same_cell hS1 c4, hS.trans hS1⟩
theorem ES.fresh {W0 w : World} {gx ex : Nat} {P Q G H : Int} {ra : Option Addr} {rn rc : Nat} {e : Int} (h : ES W0 gx ex P Q G H ra rn rc e w) : ES w gx ex P Q G H ra rn rc e w := ⟨h.1, h.2.1, h.2.2.1, h.2.2.2.1, h.2.2.2.2.1, h.2.2.2.2.2.1, Same.refl _⟩
theorem ans_any (P Q G H : Int) (ra : Option Addr) (rn rc : Nat) (e : Int) (xa ya : Option Addr) (xn xc yn yc : Nat) (xs ys : List Int) (hP : U64 P) (hQ : U64 Q) (he : U64 e) (hn : xn ≤ 1000) (w : World) (hx : IntsAt w xa xn xs) (hy : IntsAt w ya yn ys) :
    Calls Try.prog 21 #[.agg #[.int .u64 P, .int .u64 Q, .int .u64 G, .int .u64 H, .slice ra rn rc], .slice xa xn xc, .slice ya yn yc, .int .u64 e] w fun z w' => ImgRet w z w' (eachS (ansF Q e) xs ys) (lenB xs ys) := by
  obtain ⟨W, gx, ex, eW, eg, ee, hB⟩ := par_ge w P Q G H ra rn rc e
  have EW := Lib.hid eW
  have EG := Lib.hid eg
  have EE := Lib.hid ee
  have HB := Lib.hid hB.fresh
  have hS := hB.2.base
  have HX := Lib.hid (hx.same hS)
  have HY := Lib.hid (hy.same hS)
  clear eW eg ee hB hx hy
  have hmf : ∀ (fn : Fn) (first cap : Array Value) (w : World), (Instr.makeFunc fn first cap).run Try.prog w = .ok (.func fn first cap) w := fun _ _ _ _ => rfl
  go_enter Try.func21, Try.ntmps21
  go_upto_region 1 with fail
  rw [EW.out, EG.out, EE.out]
  go_wp2_with fail
  refine (ans_each P Q G H ra rn rc e gx ex xa ya xn xc yn yc xs ys hP hQ he hn _ HB.out HX.out HY.out).mono ?_
  rintro e1 w1 ⟨ia, im, ic, rfl, hi, hT⟩
  have HI := Lib.hid hi
  clear hi
  go_wp2_with fail
  go_ret2
  exact ⟨ia, im, ic, rfl, HI.out, hS.trans hT⟩
theorem drw_any (P Q G H : Int) (ra : Option Addr) (rn rc : Nat) (e : Int) (xa ya : Option Addr) (xn xc yn yc : Nat) (xs ys : List Int) (hP : U64 P) (hQ : U64 Q) (he : U64 e) (hn : xn ≤ 1000) (w : World) (hx : IntsAt w xa xn xs) (hy : IntsAt w ya yn ys) :
    Calls Try.prog 25 #[.agg #[.int .u64 P, .int .u64 Q, .int .u64 G, .int .u64 H, .slice ra rn rc], .slice xa xn xc, .slice ya yn yc, .int .u64 e] w fun z w' => ImgRet w z w' (eachS (drwF Q e) xs ys) (lenB xs ys) := by
  obtain ⟨W, gx, ex, eW, eg, ee, hB⟩ := par_ge w P Q G H ra rn rc e
  have EW := Lib.hid eW
  have EG := Lib.hid eg
  have EE := Lib.hid ee
  have HB := Lib.hid hB.fresh
  have hS := hB.2.base
  have HX := Lib.hid (hx.same hS)
  have HY := Lib.hid (hy.same hS)
  clear eW eg ee hB hx hy
  have hmf : ∀ (fn : Fn) (first cap : Array Value) (w : World), (Instr.makeFunc fn first cap).run Try.prog w = .ok (.func fn first cap) w := fun _ _ _ _ => rfl
  go_enter Try.func25, Try.ntmps25
  go_upto_region 1 with fail
  rw [EW.out, EG.out, EE.out]
  go_wp2_with fail
  refine (drw_each P Q G H ra rn rc e gx ex xa ya xn xc yn yc xs ys hP hQ he hn _ HB.out HX.out HY.out).mono ?_
  rintro e1 w1 ⟨ia, im, ic, rfl, hi, hT⟩
  have HI := Lib.hid hi
  clear hi
  go_wp2_with fail
  go_ret2
  exact ⟨ia, im, ic, rfl, HI.out, hS.trans hT⟩
noncomputable def fakL (P Q : Int) (ts : List Int) (bs : List (List Int)) (e : Int) (ws : List Int) : List Int := open Classical in if ImgOk P Q ts bs ws then eachS (fakF P Q e) (imageS P Q bs ws) ts else []
theorem fakL_yes {P Q : Int} {ts : List Int} {bs : List (List Int)} {e : Int} {ws : List Int} (h : ImgOk P Q ts bs ws) : fakL P Q ts bs e ws = eachS (fakF P Q e) (imageS P Q bs ws) ts := if_pos h
theorem fakL_no {P Q : Int} {ts : List Int} {bs : List (List Int)} {e : Int} {ws : List Int} (h : ¬ ImgOk P Q ts bs ws) : fakL P Q ts bs e ws = [] := if_neg h
/-- the group's box, a claim's and a number's -/
abbrev FS (W0 : World) (gx cx ex : Nat) (P Q G H : Int) (ra : Option Addr) (rn rc : Nat) (u v : Value) (e : Int) (w : World) : Prop := w.cell? ⟨ex, 0, none⟩ = some (.int .u64 e) ∧ ClS W0 gx cx P Q G H ra rn rc u v w
theorem FS.same {W0 w w' : World} {gx cx ex : Nat} {P Q G H : Int} {ra : Option Addr} {rn rc : Nat} {u v : Value} {e : Int} (h : FS W0 gx cx ex P Q G H ra rn rc u v e w) (hs : Same w w') : FS W0 gx cx ex P Q G H ra rn rc u v e w' := ⟨same_cell hs h.1, h.2.same hs⟩
theorem FS.es {W0 w : World} {gx cx ex : Nat} {P Q G H : Int} {ra : Option Addr} {rn rc : Nat} {u v : Value} {e : Int} (h : FS W0 gx cx ex P Q G H ra rn rc u v e w) : ES w gx ex P Q G H ra rn rc e w := ES.fresh (W0 := W0) ⟨h.1, h.2.2.2⟩
theorem par_gce (w : World) (P Q G H : Int) (ra : Option Addr) (rn rc : Nat) (u v : Value) (e : Int) : ∃ W gx cx ex, ((w.alloc (.cells #[.int .u64 P, .int .u64 Q, .int .u64 G, .int .u64 H, .slice ra rn rc] 25)).alloc (.cells #[u, v] 29)).alloc (.cells #[.int .u64 e] 22) = W ∧ w.heap.size = gx ∧ gx + 1 = cx ∧ cx + 1 = ex ∧ FS w gx cx ex P Q G H ra rn rc u v e W := by
  obtain ⟨W1, gx, cx, e1, e2, e3, hB⟩ := par_claim w P Q G H ra rn rc u v
  have hz : W1.heap.size = cx + 1 := by rw [← e1, ← e3, ← e2]; simp
  have hS1 : Same W1 (W1.alloc (.cells #[.int .u64 e] 22)) := (Same.refl W1).alloc _
  exact ⟨_, gx, cx, cx + 1, by rw [e1], e2, e3, rfl, by rw [← hz]; simp [World.cell?_alloc_new], hB.same hS1⟩
set_option maxHeartbeats 800000 in
theorem fake_any (P Q G H : Int) (ra : Option Addr) (rn rc : Nat) (ta ba wa : Option Addr) (tn tc bn bc wn wc : Nat) (ts : List Int) (bs : List (List Int)) (e : Int) (ws : List Int) (hP : U64 P) (hQ : U64 Q) (he : U64 e) (hgrp : GrpP P Q) (w : World) (ht : IntsAt w ta tn ts) (hb : MatAt w ba bn bs) (hw : IntsAt w wa wn ws) :
    Calls Try.prog 28 #[.agg #[.int .u64 P, .int .u64 Q, .int .u64 G, .int .u64 H, .slice ra rn rc], .agg #[.slice ta tn tc, .slice ba bn bc], .int .u64 e, .slice wa wn wc] w fun z w' => ImgRet w z w' (fakL P Q ts bs e ws) (imgB P Q ts bs ws) := by
  obtain ⟨W, gx, cx, ex, eW, eg, ec, ee, hB⟩ := par_gce w P Q G H ra rn rc (.slice ta tn tc) (.slice ba bn bc) e
  have EW := Lib.hid eW
  have EG := Lib.hid eg
  have EC := Lib.hid ec
  have EE := Lib.hid ee
  have HT := Lib.hid ht
  have HM := Lib.hid hb
  have HW := Lib.hid hw
  have HB := Lib.hid hB
  clear eW eg ec ee ht hb hw hB
  have hmf : ∀ (fn : Fn) (first cap : Array Value) (w : World), (Instr.makeFunc fn first cap).run Try.prog w = .ok (.func fn first cap) w := fun _ _ _ _ => rfl
  obtain ⟨e0, c0, c1, b0, b1, b2, b3, b4, hS⟩ := HB.out
  go_enter Try.func28, Try.ntmps28
  go_upto_region 1 with fail
  rw [EW.out, EG.out, EC.out, EE.out]
  go_wp2_with fail
  refine (image_any P Q G H ra rn rc ta ba wa tn tc bn bc wn wc ts bs ws hP hQ hgrp _ (HT.out.same hS) (HM.out.same hS) (HW.out.same hS)).mono ?_
  rintro e1 w1 ⟨ia, im, ic, rfl, hi, hT⟩
  have HI := Lib.hid hi
  replace HB := Lib.hid (FS.same HB.out hT)
  clear e0 c0 c1 b0 b1 b2 b3 b4 hS hT hi
  obtain ⟨e0, c0, c1, b0, b1, b2, b3, b4, hS⟩ := HB.out
  by_cases hok : ImgOk P Q ts bs ws
  case neg =>
    have HV := Lib.hid (And.intro (imgB_no hok) (fakL_no (e := e) hok))
    rw [imgB_no hok]
    clear hok
    go_wp2_with fail
    go_ret2
    exact ⟨none, 0, 0, by rw [HV.out.1]; rfl, by rw [HV.out.2]; exact ints_nil _, hS⟩
  have HV := Lib.hid (And.intro (imgB_yes hok) (fakL_yes (e := e) hok))
  have HIL := Lib.hid (imgL_yes hok)
  have him : im ≤ 1000 := by
    have h1 := HI.out.len
    rw [imgL_yes hok, imageS_len, hok.1.b] at h1
    have := hok.1.t64
    omega
  have HLE := Lib.hid (lenB_yes (xs := imageS P Q bs ws) (ys := ts) (by rw [imageS_len, hok.1.b]))
  rw [imgB_yes hok]
  clear hok
  go_wp2_with fail
  refine (fak_each P Q G H ra rn rc e gx ex ia ta im ic tn tc _ ts hP hQ he him _ HB.out.es HI.out (HT.out.same hS)).mono ?_
  rintro e1 w2 ⟨fa, fm, fc, rfl, hf, hT⟩
  have HF := Lib.hid hf
  clear hf
  go_wp2_with fail
  go_ret2
  exact ⟨fa, fm, fc, by rw [HV.out.1, HIL.out, HLE.out]; rfl, by rw [HV.out.2, ← HIL.out]; exact HF.out, hS.trans hT⟩
/-- one cell in its block, not frozen -/
structure OneAt (w : World) (b : Nat) (u : Value) : Prop where
  c : w.cell? ⟨b, 0, none⟩ = some u
  f : w.frozen? ⟨b, 0, none⟩ = false
theorem OneAt.same {w w' : World} {b : Nat} {u : Value} (h : OneAt w b u) (hs : Same w w') : OneAt w' b u := ⟨same_cell hs h.c, (hs.frozen (World.block_lt_of_cell? w _ h.c)).trans h.f⟩
theorem OneAt.new (w : World) (t : TypeId) (u : Value) : OneAt (w.alloc (.cells #[u] t)) w.heap.size u := ⟨by simp [World.cell?_alloc_new], by simp [World.frozen?_alloc_new]⟩
theorem OneAt.set {w : World} {b : Nat} {u : Value} (h : OneAt w b u) (x : Value) : OneAt (w.setCell ⟨b, 0, none⟩ x) b x := ⟨World.cell?_setCell_same _ _ _ h.c, by simp [h.f]⟩
noncomputable def extB (Q e f : Int) (xs ys : List Int) : Bool := hasB (subI e f Q).toNat Q.toNat && lenB xs ys
noncomputable def extL (Q e f : Int) (xs ys : List Int) : List Int := if hasB (subI e f Q).toNat Q.toNat then eachS (extF Q (invI (subI e f Q) Q)) xs ys else []
set_option maxHeartbeats 1600000 in
theorem extract_any (P Q G H : Int) (ra : Option Addr) (rn rc : Nat) (e f : Int) (xa ya : Option Addr) (xn xc yn yc : Nat) (xs ys : List Int) (hP : U64 P) (hQ : U64 Q) (he : U64 e) (hf : U64 f) (hn : xn ≤ 1000) (w : World) (hx : IntsAt w xa xn xs) (hy : IntsAt w ya yn ys) :
    Calls Try.prog 23 #[.agg #[.int .u64 P, .int .u64 Q, .int .u64 G, .int .u64 H, .slice ra rn rc], .int .u64 e, .slice xa xn xc, .int .u64 f, .slice ya yn yc] w fun z w' => ImgRet w z w' (extL Q e f xs ys) (extB Q e f xs ys) := by
  obtain ⟨W, gx, eW, eg, hS0, c0, c1, c2, c3, c4⟩ := par_box w P Q G H (.slice ra rn rc)
  have EW := Lib.hid eW
  have EG := Lib.hid eg
  have HE := Lib.hid (And.intro he hf)
  have HX := Lib.hid hx
  have HY := Lib.hid hy
  have HB := Lib.hid (show BoxS w gx P Q G H ra rn rc W.drew from BoxS.same ⟨c0, c1, c2, c3, c4, hS0⟩ (drew_same W))
  obtain ⟨iv, eiv⟩ : ∃ iv, invI (subI e f Q) Q = iv := ⟨_, rfl⟩
  obtain ⟨ok, eok⟩ : ∃ ok, hasB (subI e f Q).toNat Q.toNat = ok := ⟨_, rfl⟩
  have HIV := Lib.hid (show U64 iv by rw [← eiv]; exact invI_u _ _)
  have HBY := Lib.hid eiv
  have HBO := Lib.hid eok
  clear eW eg he hf hx hy eiv eok hS0 c0 c1 c2 c3 c4
  have hmf : ∀ (fn : Fn) (first cap : Array Value) (w : World), (Instr.makeFunc fn first cap).run Try.prog w = .ok (.func fn first cap) w := fun _ _ _ _ => rfl
  go_enter Try.func23, Try.ntmps23
  go_upto_region 1 with fail
  rw [EW.out, EG.out]
  go_cut [12, 13] (fun s12 s13 wx => ∃ dx, s12 = .pointer (some ⟨dx, 0, none⟩) ∧ s13 = .bool ok ∧ dx ≠ gx ∧ w.heap.size ≤ dx ∧ wx.cell? ⟨dx, 0, none⟩ = some (.int .u64 iv) ∧ BoxS w gx P Q G H ra rn rc wx)
  case first =>
    refine wp_region_held_drew (S := fun w' => BoxS w gx P Q G H ra rn rc w') (by kernel_rfl) HB.out (fun hHeld => ?_)
    obtain ⟨Wd, eWd⟩ : ∃ Wd, W.drew = Wd := ⟨_, rfl⟩
    rw [eWd] at hHeld ⊢
    clear eWd
    refine wpAnyH_take (i := 0) (v := ?_) rfl (by kernel_rfl) (by kernel_rfl) (by kernel_rfl) (fun _ _ _ h => h) (Or.inl ⟨by rfl, ?_⟩) (by assumption) ?_
    rotate_left
    · intro w hSw; (try dsimp only at hSw); go_simp; try with_reducible rfl
    try simp only [Act.put, List.getElem_toArray, List.getElem_cons_succ, List.getElem_cons_zero, List.setIfInBounds_toArray, List.set_cons_zero, List.set_cons_succ]
    refine wpAnyH_take (i := 1) (v := ?_) rfl (by kernel_rfl) (by kernel_rfl) (by kernel_rfl) (fun _ _ _ h => h) (Or.inl ⟨by rfl, ?_⟩) (by assumption) ?_
    rotate_left
    · intro w hSw; (try dsimp only at hSw); go_simp; try with_reducible rfl
    try simp only [Act.put, List.getElem_toArray, List.getElem_cons_succ, List.getElem_cons_zero, List.setIfInBounds_toArray, List.set_cons_zero, List.set_cons_succ]
    refine wpAnyH_take (i := 2) (v := ?_) rfl (by kernel_rfl) (by kernel_rfl) (by kernel_rfl) (fun _ _ _ h => h) (Or.inl ⟨by rfl, ?_⟩) (by assumption) ?_
    rotate_left
    · intro w hSw; (try dsimp only at hSw); go_simp; try with_reducible rfl
    try simp only [Act.put, List.getElem_toArray, List.getElem_cons_succ, List.getElem_cons_zero, List.setIfInBounds_toArray, List.set_cons_zero, List.set_cons_succ]
    refine wpAnyH_take (i := 3) (v := ?_) rfl (by kernel_rfl) (by kernel_rfl) (by kernel_rfl) (fun _ _ _ h => h) (Or.inl ⟨by rfl, ?_⟩) (by assumption) ?_
    rotate_left
    · intro w hSw; (try dsimp only at hSw); go_simp; try with_reducible rfl
    try simp only [Act.put, List.getElem_toArray, List.getElem_cons_succ, List.getElem_cons_zero, List.setIfInBounds_toArray, List.set_cons_zero, List.set_cons_succ]
    refine wpAnyH_take (i := 5) (v := ?_) rfl (by kernel_rfl) (by kernel_rfl) (by kernel_rfl) (fun _ _ _ h => h) (Or.inl ⟨by rfl, ?_⟩) (by assumption) ?_
    rotate_left
    · intro w hSw; (try dsimp only at hSw); go_simp; try with_reducible rfl
    try simp only [Act.put, List.getElem_toArray, List.getElem_cons_succ, List.getElem_cons_zero, List.setIfInBounds_toArray, List.set_cons_zero, List.set_cons_succ]
    refine wpAnyH_take (i := 6) (v := ?_) rfl (by kernel_rfl) (by kernel_rfl) (by kernel_rfl) (fun _ _ _ h => h) (Or.inl ⟨by rfl, ?_⟩) (by assumption) ?_
    rotate_left
    · intro w hSw; (try dsimp only at hSw); go_simp; try with_reducible rfl
    try simp only [Act.put, List.getElem_toArray, List.getElem_cons_succ, List.getElem_cons_zero, List.setIfInBounds_toArray, List.set_cons_zero, List.set_cons_succ]
    refine wpAnyH_ready (rs := [4, 11]) (by kernel_rfl) (by simp) ?_
    refine AllReadyH.cons rfl (fun K hK => ?_) (AllReadyH.cons rfl (fun K hK => ?_) AllReadyH.nil)
    · go_simp
      refine (subI_any e f Q HE.out.1.1 HE.out.2.1 hQ.1 _).mono ?_
      rintro e1 x1 ⟨rfl, hx1⟩
      go_wp2_with fail
      refine hK.out _ _ ?_ (fun hHeld => ?_)
      · exact BoxS.same (by with_reducible assumption) (by with_reducible assumption)
      clear hK K
      try simp only [Act.put, List.getElem_toArray, List.getElem_cons_succ, List.getElem_cons_zero, List.setIfInBounds_toArray, List.set_cons_zero, List.set_cons_succ]
      refine wpAnyH_ready (rs := [7, 11]) (by kernel_rfl) (by simp) ?_
      refine AllReadyH.cons rfl (fun K hK => ?_) (AllReadyH.cons rfl (fun K hK => ?_) AllReadyH.nil)
      · go_simp
        refine (invI_any (subI e f Q) Q (subI_u _ _ _).1 hQ.1 _).mono ?_
        rintro e1 x2 ⟨rfl, hx2⟩
        rw [HBY.out, HBO.out]
        go_wp2_with fail
        refine hK.out _ _ ?_ (fun hHeld => ?_)
        · exact BoxS.same (by with_reducible assumption) (by with_reducible assumption)
        clear hK K
        try simp only [Act.put, List.getElem_toArray, List.getElem_cons_succ, List.getElem_cons_zero, List.setIfInBounds_toArray, List.set_cons_zero, List.set_cons_succ]
        refine wpAnyH_take (i := 8) (v := ?_) rfl (by kernel_rfl) (by kernel_rfl) (by kernel_rfl) (fun _ _ _ h => h) (Or.inl ⟨by rfl, ?_⟩) (by assumption) ?_
        rotate_left
        · intro w hSw; (try dsimp only at hSw); go_simp; try with_reducible rfl
        try simp only [Act.put, List.getElem_toArray, List.getElem_cons_succ, List.getElem_cons_zero, List.setIfInBounds_toArray, List.set_cons_zero, List.set_cons_succ]
        refine wpAnyH_take (i := 9) (v := ?_) rfl (by kernel_rfl) (by kernel_rfl) (by kernel_rfl) (fun _ _ _ h => h) (Or.inl ⟨by rfl, ?_⟩) (by assumption) ?_
        rotate_left
        · intro w hSw; (try dsimp only at hSw); go_simp; try with_reducible rfl
        try simp only [Act.put, List.getElem_toArray, List.getElem_cons_succ, List.getElem_cons_zero, List.setIfInBounds_toArray, List.set_cons_zero, List.set_cons_succ]
        refine wpAnyH_take (i := 10) (v := ?_) rfl (by kernel_rfl) (by kernel_rfl) (by kernel_rfl) (fun _ _ _ h => h) (Or.inl ⟨by rfl, ?_⟩) (by assumption) ?_
        rotate_left
        · intro w hSw; (try dsimp only at hSw); go_simp; try with_reducible rfl
        try simp only [Act.put, List.getElem_toArray, List.getElem_cons_succ, List.getElem_cons_zero, List.setIfInBounds_toArray, List.set_cons_zero, List.set_cons_succ]
        refine wpAnyH_ready (rs := [11]) (by kernel_rfl) (by simp) ?_
        refine AllReadyH.cons rfl (fun K hK => ?_) AllReadyH.nil
        go_simp
        have hA := (Same.refl x2).alloc (.cells #[.int .u64 0] 22)
        have hP : OneAt (x2.alloc (.cells #[.int .u64 0] 22)) x2.heap.size (.int .u64 0) := OneAt.new _ _ _
        have hN : x2.heap.size ≠ gx ∧ w.heap.size ≤ x2.heap.size := ⟨World.new_ne x2 ⟨gx, 0, none⟩ (by assumption : BoxS w gx P Q G H ra rn rc x2).1, (by assumption : BoxS w gx P Q G H ra rn rc x2).base.size⟩
        obtain ⟨wA, eA⟩ : ∃ wA, x2.alloc (.cells #[.int .u64 0] 22) = wA := ⟨_, rfl⟩
        obtain ⟨dx, eD⟩ : ∃ dx, x2.heap.size = dx := ⟨_, rfl⟩
        rw [eA] at hA hP ⊢
        rw [eD] at hP hN ⊢
        clear eA eD
        refine hK.out _ _ ?_ (fun hHeld => ?_)
        · exact BoxS.same (by with_reducible assumption) (by with_reducible assumption)
        clear hK K
        try simp only [Act.put, List.getElem_toArray, List.getElem_cons_succ, List.getElem_cons_zero, List.setIfInBounds_toArray, List.set_cons_zero, List.set_cons_succ]
        refine wpAnyH_ready (rs := [12]) (by kernel_rfl) (by simp) ?_
        refine AllReadyH.cons rfl (fun K hK => ?_) AllReadyH.nil
        obtain ⟨d0, d1⟩ := hP
        have hP2 := (OneAt.mk d0 d1).set (.int .u64 iv)
        go_simp
        refine hK.out _ _ ?_ (fun hHeld => ?_)
        · exact BoxS.set6 hHeld hN.1 hN.2 _
        clear hK K
        try simp only [Act.put, List.getElem_toArray, List.getElem_cons_succ, List.getElem_cons_zero, List.setIfInBounds_toArray, List.set_cons_zero, List.set_cons_succ]
        clear d0 d1
        refine wpAnyH_take (i := 13) (v := ?_) rfl (by kernel_rfl) (by kernel_rfl) (by kernel_rfl) (fun _ _ _ h => h) (Or.inl ⟨by rfl, ?_⟩) (by assumption) ?_
        rotate_left
        · intro w hSw; (try dsimp only at hSw); go_simp; try with_reducible rfl
        try simp only [Act.put, List.getElem_toArray, List.getElem_cons_succ, List.getElem_cons_zero, List.setIfInBounds_toArray, List.set_cons_zero, List.set_cons_succ]
        refine wpAnyH_done (by kernel_rfl) ?_ _
        go_wp2_with fail
        go_meet
        exact ⟨dx, rfl, rfl, hN.1, hN.2, hP2.c, hHeld⟩
      · go_simp
        have hA := (Same.refl x1).alloc (.cells #[.int .u64 0] 22)
        have hP : OneAt (x1.alloc (.cells #[.int .u64 0] 22)) x1.heap.size (.int .u64 0) := OneAt.new _ _ _
        have hN : x1.heap.size ≠ gx ∧ w.heap.size ≤ x1.heap.size := ⟨World.new_ne x1 ⟨gx, 0, none⟩ (by assumption : BoxS w gx P Q G H ra rn rc x1).1, (by assumption : BoxS w gx P Q G H ra rn rc x1).base.size⟩
        obtain ⟨wA, eA⟩ : ∃ wA, x1.alloc (.cells #[.int .u64 0] 22) = wA := ⟨_, rfl⟩
        obtain ⟨dx, eD⟩ : ∃ dx, x1.heap.size = dx := ⟨_, rfl⟩
        rw [eA] at hA hP ⊢
        rw [eD] at hP hN ⊢
        clear eA eD
        refine hK.out _ _ ?_ (fun hHeld => ?_)
        · exact BoxS.same (by with_reducible assumption) (by with_reducible assumption)
        clear hK K
        try simp only [Act.put, List.getElem_toArray, List.getElem_cons_succ, List.getElem_cons_zero, List.setIfInBounds_toArray, List.set_cons_zero, List.set_cons_succ]
        refine wpAnyH_ready (rs := [7]) (by kernel_rfl) (by simp) ?_
        refine AllReadyH.cons rfl (fun K hK => ?_) AllReadyH.nil
        go_simp
        refine (invI_any (subI e f Q) Q (subI_u _ _ _).1 hQ.1 _).mono ?_
        rintro e1 x2 ⟨rfl, hx2⟩
        rw [HBY.out, HBO.out]
        go_wp2_with fail
        replace hP := hP.same hx2
        refine hK.out _ _ ?_ (fun hHeld => ?_)
        · exact BoxS.same (by with_reducible assumption) (by with_reducible assumption)
        clear hK K
        try simp only [Act.put, List.getElem_toArray, List.getElem_cons_succ, List.getElem_cons_zero, List.setIfInBounds_toArray, List.set_cons_zero, List.set_cons_succ]
        refine wpAnyH_take (i := 8) (v := ?_) rfl (by kernel_rfl) (by kernel_rfl) (by kernel_rfl) (fun _ _ _ h => h) (Or.inl ⟨by rfl, ?_⟩) (by assumption) ?_
        rotate_left
        · intro w hSw; (try dsimp only at hSw); go_simp; try with_reducible rfl
        try simp only [Act.put, List.getElem_toArray, List.getElem_cons_succ, List.getElem_cons_zero, List.setIfInBounds_toArray, List.set_cons_zero, List.set_cons_succ]
        refine wpAnyH_take (i := 9) (v := ?_) rfl (by kernel_rfl) (by kernel_rfl) (by kernel_rfl) (fun _ _ _ h => h) (Or.inl ⟨by rfl, ?_⟩) (by assumption) ?_
        rotate_left
        · intro w hSw; (try dsimp only at hSw); go_simp; try with_reducible rfl
        try simp only [Act.put, List.getElem_toArray, List.getElem_cons_succ, List.getElem_cons_zero, List.setIfInBounds_toArray, List.set_cons_zero, List.set_cons_succ]
        refine wpAnyH_take (i := 10) (v := ?_) rfl (by kernel_rfl) (by kernel_rfl) (by kernel_rfl) (fun _ _ _ h => h) (Or.inl ⟨by rfl, ?_⟩) (by assumption) ?_
        rotate_left
        · intro w hSw; (try dsimp only at hSw); go_simp; try with_reducible rfl
        try simp only [Act.put, List.getElem_toArray, List.getElem_cons_succ, List.getElem_cons_zero, List.setIfInBounds_toArray, List.set_cons_zero, List.set_cons_succ]
        refine wpAnyH_ready (rs := [12]) (by kernel_rfl) (by simp) ?_
        refine AllReadyH.cons rfl (fun K hK => ?_) AllReadyH.nil
        obtain ⟨d0, d1⟩ := hP
        have hP2 := (OneAt.mk d0 d1).set (.int .u64 iv)
        go_simp
        refine hK.out _ _ ?_ (fun hHeld => ?_)
        · exact BoxS.set6 hHeld hN.1 hN.2 _
        clear hK K
        try simp only [Act.put, List.getElem_toArray, List.getElem_cons_succ, List.getElem_cons_zero, List.setIfInBounds_toArray, List.set_cons_zero, List.set_cons_succ]
        clear d0 d1
        refine wpAnyH_take (i := 13) (v := ?_) rfl (by kernel_rfl) (by kernel_rfl) (by kernel_rfl) (fun _ _ _ h => h) (Or.inl ⟨by rfl, ?_⟩) (by assumption) ?_
        rotate_left
        · intro w hSw; (try dsimp only at hSw); go_simp; try with_reducible rfl
        try simp only [Act.put, List.getElem_toArray, List.getElem_cons_succ, List.getElem_cons_zero, List.setIfInBounds_toArray, List.set_cons_zero, List.set_cons_succ]
        refine wpAnyH_done (by kernel_rfl) ?_ _
        go_wp2_with fail
        go_meet
        exact ⟨dx, rfl, rfl, hN.1, hN.2, hP2.c, hHeld⟩
    · go_simp
      have hA := (Same.refl Wd).alloc (.cells #[.int .u64 0] 22)
      have hP : OneAt (Wd.alloc (.cells #[.int .u64 0] 22)) Wd.heap.size (.int .u64 0) := OneAt.new _ _ _
      have hN : Wd.heap.size ≠ gx ∧ w.heap.size ≤ Wd.heap.size := ⟨World.new_ne Wd ⟨gx, 0, none⟩ (by assumption : BoxS w gx P Q G H ra rn rc Wd).1, (by assumption : BoxS w gx P Q G H ra rn rc Wd).base.size⟩
      obtain ⟨wA, eA⟩ : ∃ wA, Wd.alloc (.cells #[.int .u64 0] 22) = wA := ⟨_, rfl⟩
      obtain ⟨dx, eD⟩ : ∃ dx, Wd.heap.size = dx := ⟨_, rfl⟩
      rw [eA] at hA hP ⊢
      rw [eD] at hP hN ⊢
      clear eA eD
      refine hK.out _ _ ?_ (fun hHeld => ?_)
      · exact BoxS.same (by with_reducible assumption) (by with_reducible assumption)
      clear hK K
      try simp only [Act.put, List.getElem_toArray, List.getElem_cons_succ, List.getElem_cons_zero, List.setIfInBounds_toArray, List.set_cons_zero, List.set_cons_succ]
      refine wpAnyH_ready (rs := [4]) (by kernel_rfl) (by simp) ?_
      refine AllReadyH.cons rfl (fun K hK => ?_) AllReadyH.nil
      go_simp
      refine (subI_any e f Q HE.out.1.1 HE.out.2.1 hQ.1 _).mono ?_
      rintro e1 x1 ⟨rfl, hx1⟩
      go_wp2_with fail
      replace hP := hP.same hx1
      refine hK.out _ _ ?_ (fun hHeld => ?_)
      · exact BoxS.same (by with_reducible assumption) (by with_reducible assumption)
      clear hK K
      try simp only [Act.put, List.getElem_toArray, List.getElem_cons_succ, List.getElem_cons_zero, List.setIfInBounds_toArray, List.set_cons_zero, List.set_cons_succ]
      refine wpAnyH_ready (rs := [7]) (by kernel_rfl) (by simp) ?_
      refine AllReadyH.cons rfl (fun K hK => ?_) AllReadyH.nil
      go_simp
      refine (invI_any (subI e f Q) Q (subI_u _ _ _).1 hQ.1 _).mono ?_
      rintro e1 x2 ⟨rfl, hx2⟩
      rw [HBY.out, HBO.out]
      go_wp2_with fail
      replace hP := hP.same hx2
      refine hK.out _ _ ?_ (fun hHeld => ?_)
      · exact BoxS.same (by with_reducible assumption) (by with_reducible assumption)
      clear hK K
      try simp only [Act.put, List.getElem_toArray, List.getElem_cons_succ, List.getElem_cons_zero, List.setIfInBounds_toArray, List.set_cons_zero, List.set_cons_succ]
      refine wpAnyH_take (i := 8) (v := ?_) rfl (by kernel_rfl) (by kernel_rfl) (by kernel_rfl) (fun _ _ _ h => h) (Or.inl ⟨by rfl, ?_⟩) (by assumption) ?_
      rotate_left
      · intro w hSw; (try dsimp only at hSw); go_simp; try with_reducible rfl
      try simp only [Act.put, List.getElem_toArray, List.getElem_cons_succ, List.getElem_cons_zero, List.setIfInBounds_toArray, List.set_cons_zero, List.set_cons_succ]
      refine wpAnyH_take (i := 9) (v := ?_) rfl (by kernel_rfl) (by kernel_rfl) (by kernel_rfl) (fun _ _ _ h => h) (Or.inl ⟨by rfl, ?_⟩) (by assumption) ?_
      rotate_left
      · intro w hSw; (try dsimp only at hSw); go_simp; try with_reducible rfl
      try simp only [Act.put, List.getElem_toArray, List.getElem_cons_succ, List.getElem_cons_zero, List.setIfInBounds_toArray, List.set_cons_zero, List.set_cons_succ]
      refine wpAnyH_take (i := 10) (v := ?_) rfl (by kernel_rfl) (by kernel_rfl) (by kernel_rfl) (fun _ _ _ h => h) (Or.inl ⟨by rfl, ?_⟩) (by assumption) ?_
      rotate_left
      · intro w hSw; (try dsimp only at hSw); go_simp; try with_reducible rfl
      try simp only [Act.put, List.getElem_toArray, List.getElem_cons_succ, List.getElem_cons_zero, List.setIfInBounds_toArray, List.set_cons_zero, List.set_cons_succ]
      refine wpAnyH_ready (rs := [12]) (by kernel_rfl) (by simp) ?_
      refine AllReadyH.cons rfl (fun K hK => ?_) AllReadyH.nil
      obtain ⟨d0, d1⟩ := hP
      have hP2 := (OneAt.mk d0 d1).set (.int .u64 iv)
      go_simp
      refine hK.out _ _ ?_ (fun hHeld => ?_)
      · exact BoxS.set6 hHeld hN.1 hN.2 _
      clear hK K
      try simp only [Act.put, List.getElem_toArray, List.getElem_cons_succ, List.getElem_cons_zero, List.setIfInBounds_toArray, List.set_cons_zero, List.set_cons_succ]
      clear d0 d1
      refine wpAnyH_take (i := 13) (v := ?_) rfl (by kernel_rfl) (by kernel_rfl) (by kernel_rfl) (fun _ _ _ h => h) (Or.inl ⟨by rfl, ?_⟩) (by assumption) ?_
      rotate_left
      · intro w hSw; (try dsimp only at hSw); go_simp; try with_reducible rfl
      try simp only [Act.put, List.getElem_toArray, List.getElem_cons_succ, List.getElem_cons_zero, List.setIfInBounds_toArray, List.set_cons_zero, List.set_cons_succ]
      refine wpAnyH_done (by kernel_rfl) ?_ _
      go_wp2_with fail
      go_meet
      exact ⟨dx, rfl, rfl, hN.1, hN.2, hP2.c, hHeld⟩
  case rest =>
    obtain ⟨dx, e12, e13, hdg, hdw, hc, hb⟩ := hcut
    subst e12 e13
    have HEs := Lib.hid (ES.fresh (W0 := w) (gx := gx) (ex := dx) (P := P) (Q := Q) (G := G) (H := H) (ra := ra) (rn := rn) (rc := rc) (e := iv) ⟨hc, hb⟩)
    have hS := hb.base
    clear hc hb
    cases ok
    · go_wp2_with fail
      go_ret2
      exact ⟨none, 0, 0, by unfold extB; rw [HBO.out]; rfl, by unfold extL; rw [HBO.out]; exact ints_nil _, hS⟩
    go_wp2_with fail
    refine (ext_each P Q G H ra rn rc iv gx dx xa ya xn xc yn yc xs ys hP hQ HIV.out hn _ HEs.out (HX.out.same hS) (HY.out.same hS)).mono ?_
    rintro e1 w2 ⟨fa, fm, fc, rfl, hf, hT⟩
    have HF := Lib.hid hf
    clear hf
    go_wp2_with fail
    go_ret2
    exact ⟨fa, fm, fc, by unfold extB; rw [HBO.out]; rfl, by unfold extL; rw [HBO.out, HBY.out]; exact HF.out, hS.trans hT⟩
end Go.Proofs.Ytlnkpbaibnfhhaa
