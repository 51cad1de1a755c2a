/- The document's Size. -/
import Derived.Test.YtlnkpbaibnfhhaaLinR
import Derived.Test.YtlnkpbaibnfhhaaW4
import Derived.Deep.RegionHeld3
set_option linter.unusedVariables false
set_option linter.unusedSimpArgs false
namespace Go.Proofs.Ytlnkpbaibnfhhaa
open Go.RowKit NT
abbrev R9 (W0 : World) (gx cx b1 o1 b2 o2 : Nat) (P Q G H : Int) (ra : Option Addr) (rn rc : Nat) (u v : Value) (x : Int) (row : Value) (w : World) : Prop :=
  w.cell? ⟨b1, o1, none⟩ = some (.int .u64 x) ∧ w.cell? ⟨b2, o2, none⟩ = some row ∧ ClS W0 gx cx P Q G H ra rn rc u v w
theorem R9.same {W0 w w' : World} {gx cx b1 o1 b2 o2 : Nat} {P Q G H : Int} {ra : Option Addr} {rn rc : Nat} {u v : Value} {x : Int} {row : Value} (h : R9 W0 gx cx b1 o1 b2 o2 P Q G H ra rn rc u v x row w) (hs : Same w w') : R9 W0 gx cx b1 o1 b2 o2 P Q G H ra rn rc u v x row w' :=
  ⟨same_cell hs h.1, same_cell hs h.2.1, h.2.2.same hs⟩
theorem R9.base {W0 w : World} {gx cx b1 o1 b2 o2 : Nat} {P Q G H : Int} {ra : Option Addr} {rn rc : Nat} {u v : Value} {x : Int} {row : Value} (h : R9 W0 gx cx b1 o1 b2 o2 P Q G H ra rn rc u v x row w) : Same W0 w := h.2.2.base
abbrev R14 (W0 : World) (gx cx b1 o1 b2 o2 : Nat) (P Q G H : Int) (ra : Option Addr) (rn rc : Nat) (u v : Value) (x : Int) (row : Value) (w : World) : Prop := R9 W0 gx cx b1 o1 b2 o2 P Q G H ra rn rc u v x row w
theorem R14.same {W0 w w' : World} {gx cx b1 o1 b2 o2 : Nat} {P Q G H : Int} {ra : Option Addr} {rn rc : Nat} {u v : Value} {x : Int} {row : Value} (h : R14 W0 gx cx b1 o1 b2 o2 P Q G H ra rn rc u v x row w) (hs : Same w w') : R14 W0 gx cx b1 o1 b2 o2 P Q G H ra rn rc u v x row w' := R9.same h hs
set_option maxRecDepth 100000 in
set_option maxHeartbeats 3200000 in
theorem rsize_any (P Q G H : Int) (ra : Option Addr) (rn rc : Nat) (ta ba : Option Addr) (tn tc bn bc : Nat) (ts : List Int) (bs : List (List Int)) (hP : U64 P) (hQ : U64 Q) (w : World) (ht : IntsAt w ta tn ts) (hb : MatAt w ba bn bs) :
    Calls Try.prog 16 #[.agg #[.int .u64 P, .int .u64 Q, .int .u64 G, .int .u64 H, .slice ra rn rc], .agg #[.slice ta tn tc, .slice ba bn bc]] w fun z w' => z = .returned (.int .i64 (sizeS P Q ts bs : Nat)) ∧ Same w w' := by
  obtain ⟨W, gx, cx, eW, eg, ec, hB⟩ := par_claim w P Q G H ra rn rc (.slice ta tn tc) (.slice ba bn bc)
  have EW := Lib.hid eW
  have EG := Lib.hid eg
  have EC := Lib.hid ec
  have HU := Lib.hid (And.intro hP hQ)
  have HT := Lib.hid ht
  have HM := Lib.hid hb
  have HB := Lib.hid hB
  have HLT := Lib.hid ht.len
  have HLB := Lib.hid hb.len
  have hst := ht.small
  have hsb := hb.small
  clear eW eg ec hP hQ ht hb hB
  obtain ⟨c0, c1, b0, b1, b2, b3, b4, hS⟩ := HB.out
  by_cases ht0 : tn < 1
  · have HV := Lib.hid (sizeS_no (P := P) (Q := Q) (ts := ts) (bs := bs) (fun h => by have := h.t0; rw [HLT.out] at this; omega))
    have d0 : decide ((tn : Int) < 1) = true := decide_eq_true (by omega)
    go_enter Try.func16, Try.ntmps16
    go_upto_region 1 with fail
    rw [EW.out, EG.out, EC.out]
    go_wp2_with fail
    go_ret
    exact ⟨by rw [HV.out]; rfl, hS⟩
  have d0 : decide ((tn : Int) < 1) = false := decide_eq_false (by omega)
  by_cases ht64 : 64 < tn
  · have HV := Lib.hid (sizeS_no (P := P) (Q := Q) (ts := ts) (bs := bs) (fun h => by have := h.t64; rw [HLT.out] at this; omega))
    have d1 : decide ((64 : Int) < tn) = true := decide_eq_true (by omega)
    go_enter Try.func16, Try.ntmps16
    go_upto_region 1 with fail
    rw [EW.out, EG.out, EC.out]
    go_wp2_with fail
    go_ret
    exact ⟨by rw [HV.out]; rfl, hS⟩
  have d1 : decide ((64 : Int) < tn) = false := decide_eq_false (by omega)
  by_cases hbt : bn = tn
  case neg =>
    have HV := Lib.hid (sizeS_no (P := P) (Q := Q) (ts := ts) (bs := bs) (fun h => by have := h.b; rw [HLT.out, HLB.out] at this; omega))
    have d2 : ((bn : Int) != tn) = true := by simp; omega
    go_enter Try.func16, Try.ntmps16
    go_upto_region 1 with fail
    rw [EW.out, EG.out, EC.out]
    go_wp2_with fail
    go_ret
    exact ⟨by rw [HV.out]; rfl, hS⟩
  subst hbt
  have d2 : ((bn : Int) != bn) = false := by simp
  obtain ⟨mb, mo, hma, hmr⟩ := (HM.out.same hS).rows (by omega)
  subst hma
  obtain ⟨f0, n0, k0, hc0, hf0⟩ := hmr 0 (by omega)
  rw [Nat.add_zero] at hc0
  have HN0 := Lib.hid (show wide bs = n0 from hf0.len)
  have hn0s := hf0.small
  have hbn0 : (0 : Int) < bn := by omega
  have hbn1 : 0 < bn := by omega
  clear hmr hf0
  by_cases hn1 : n0 < 1
  · have d3 : decide ((n0 : Int) < 1) = true := decide_eq_true (by omega)
    have HV := Lib.hid (sizeS_no (P := P) (Q := Q) (ts := ts) (bs := bs) (fun h => by have := h.n0; rw [HN0.out] at this; omega))
    go_enter Try.func16, Try.ntmps16
    go_upto_region 1 with fail
    rw [EW.out, EG.out, EC.out]
    go_wp2_with fail
    go_ret
    exact ⟨by rw [HV.out]; rfl, hS⟩
  have d3 : decide ((n0 : Int) < 1) = false := decide_eq_false (by omega)
  by_cases hn64 : 64 < n0
  · have d4 : decide ((64 : Int) < n0) = true := decide_eq_true (by omega)
    have HV := Lib.hid (sizeS_no (P := P) (Q := Q) (ts := ts) (bs := bs) (fun h => by have := h.n64; rw [HN0.out] at this; omega))
    go_enter Try.func16, Try.ntmps16
    go_upto_region 1 with fail
    rw [EW.out, EG.out, EC.out]
    go_wp2_with fail
    go_ret
    exact ⟨by rw [HV.out]; rfl, hS⟩
  have d4 : decide ((64 : Int) < n0) = false := decide_eq_false (by omega)
  go_enter Try.func16, Try.ntmps16
  go_upto_region 1 with fail
  rw [EW.out, EG.out, EC.out]
  go_wp2_with fail
  go_loopw [6] (fun s6 wr => ∃ j : Nat, s6 = .int .i64 j ∧ j ≤ bn ∧ Hid (∀ i, i < j → InP P Q (ts.getD i 0) ∧ RowFit P Q (wide bs) (bs.getD i [])) ∧ Hid (ClS w gx cx P Q G H ra rn rc (.slice ta bn tc) (.slice (some ⟨mb, mo, none⟩) bn bc) wr)) (fun s6 _ => bn - (intOf s6).toNat)
  case atStart => exact ⟨0, rfl, by omega, fun i hi => by omega, HB⟩
  case round =>
    obtain ⟨j, rfl, hj, hup, HBr⟩ := hrel
    clear c0 c1 b0 b1 b2 b3 b4 hc0 hS hbn0 hbn1 d0 d1 d2 d3 d4
    obtain ⟨c0, c1, b0, b1, b2, b3, b4, hS⟩ := HBr.out
    by_cases hlt : j < bn
    · obtain ⟨mb2, mo2, hma2, hmr⟩ := HM.out.rows (by omega)
      injection hma2 with hma3
      injection hma3 with e1 e2 e3
      subst e1 e2
      obtain ⟨fa, fn, fc, hcw, hf⟩ := hmr j hlt
      have hc := same_cell hS hcw
      have HCW := Lib.hid hcw
      clear hcw
      have HF := Lib.hid hf
      have HFL := Lib.hid hf.len
      have hfs := hf.small
      obtain ⟨row, hrow⟩ : ∃ row, bs.getD j [] = row := ⟨_, rfl⟩
      rw [hrow] at HF HFL
      have HROW := Lib.hid hrow
      obtain ⟨tb, tq, hta, htc⟩ := (HT.out.same hS).cells (by omega)
      subst hta
      have hct := htc j hlt
      have hx0 := (HT.out.bd j).1
      obtain ⟨x, ex⟩ : ∃ x, ts.getD j 0 = x := ⟨_, rfl⟩
      rw [ex] at hct hx0
      have HX := Lib.hid ex
      have HX0 := Lib.hid hx0
      clear hmr hf hrow e3 htc ex hx0
      have hj0 : (0 : Int) ≤ j := by omega
      have hj1 : (j : Int) < bn := by omega
      have HR0 := Lib.hid (show R9 w gx cx tb (tq + j) mb (mo + j) P Q G H ra rn rc (.slice (some ⟨tb, tq, none⟩) bn tc) (.slice (some ⟨mb, mo, none⟩) bn bc) x (.slice fa fn fc) wr.drew from R9.same ⟨hct, hc, HBr.out⟩ (drew_same _))
      clear hct hc
      by_cases hin : InP P Q x
      case neg =>
        have HIN := Lib.hid (inB_no hin)
        have HV := Lib.hid (sizeS_no (P := P) (Q := Q) (ts := ts) (bs := bs) (fun h => hin (by rw [← HX.out]; exact h.te.at (by rw [HLT.out]; exact hlt))))
        clear hin
        go_upto_region 9 with fail
        clear c0 c1 b0 b1 b2 b3 b4 hS
        refine wp_region_held_drew (S := fun w' => R9 w gx cx tb (tq + j) mb (mo + j) P Q G H ra rn rc (.slice (some ⟨tb, tq, none⟩) bn tc) (.slice (some ⟨mb, mo, none⟩) bn bc) x (.slice fa fn fc) w') (by kernel_rfl) HR0.out (fun hHeld => ?_)
        refine wpAnyH_take (i := 0) (v := ?_) rfl (by kernel_rfl) (by kernel_rfl) (by kernel_rfl) (fun _ _ _ h => h) (Or.inl ⟨by rfl, ?_⟩) (by assumption) ?_
        rotate_left
        · intro w hSw; (try dsimp only at hSw); go_simp; try with_reducible rfl
        try simp only [Act.put, List.getElem_toArray, List.getElem_cons_succ, List.getElem_cons_zero, List.setIfInBounds_toArray, List.set_cons_zero, List.set_cons_succ]
        refine wpAnyH_take (i := 1) (v := ?_) rfl (by kernel_rfl) (by kernel_rfl) (by kernel_rfl) (fun _ _ _ h => h) (Or.inl ⟨by rfl, ?_⟩) (by assumption) ?_
        rotate_left
        · intro w hSw; (try dsimp only at hSw); go_simp; try with_reducible rfl
        try simp only [Act.put, List.getElem_toArray, List.getElem_cons_succ, List.getElem_cons_zero, List.setIfInBounds_toArray, List.set_cons_zero, List.set_cons_succ]
        refine wpAnyH_take (i := 2) (v := ?_) rfl (by kernel_rfl) (by kernel_rfl) (by kernel_rfl) (fun _ _ _ h => h) (Or.inl ⟨by rfl, ?_⟩) (by assumption) ?_
        rotate_left
        · intro w hSw; (try dsimp only at hSw); go_simp; try with_reducible rfl
        try simp only [Act.put, List.getElem_toArray, List.getElem_cons_succ, List.getElem_cons_zero, List.setIfInBounds_toArray, List.set_cons_zero, List.set_cons_succ]
        refine wpAnyH_take (i := 3) (v := ?_) rfl (by kernel_rfl) (by kernel_rfl) (by kernel_rfl) (fun _ _ _ h => h) (Or.inl ⟨by rfl, ?_⟩) (by assumption) ?_
        rotate_left
        · intro w hSw; (try dsimp only at hSw); go_simp; try with_reducible rfl
        try simp only [Act.put, List.getElem_toArray, List.getElem_cons_succ, List.getElem_cons_zero, List.setIfInBounds_toArray, List.set_cons_zero, List.set_cons_succ]
        refine wpAnyH_take (i := 4) (v := ?_) rfl (by kernel_rfl) (by kernel_rfl) (by kernel_rfl) (fun _ _ _ h => h) (Or.inl ⟨by rfl, ?_⟩) (by assumption) ?_
        rotate_left
        · intro w hSw; (try dsimp only at hSw); go_simp; try with_reducible rfl
        try simp only [Act.put, List.getElem_toArray, List.getElem_cons_succ, List.getElem_cons_zero, List.setIfInBounds_toArray, List.set_cons_zero, List.set_cons_succ]
        refine wpAnyH_take (i := 5) (v := ?_) rfl (by kernel_rfl) (by kernel_rfl) (by kernel_rfl) (fun _ _ _ h => h) (Or.inl ⟨by rfl, ?_⟩) (by assumption) ?_
        rotate_left
        · intro w hSw; (try dsimp only at hSw); go_simp; try with_reducible rfl
        try simp only [Act.put, List.getElem_toArray, List.getElem_cons_succ, List.getElem_cons_zero, List.setIfInBounds_toArray, List.set_cons_zero, List.set_cons_succ]
        refine wpAnyH_ready (rs := [6]) (by kernel_rfl) (by simp) ?_
        refine AllReadyH.cons rfl (fun K hK => ?_) AllReadyH.nil
        go_simp
        refine (rin_any P Q G H ra rn rc x HU.out.1.1 HU.out.2.1 HU.out.2.2 HX0.out _).mono ?_
        rintro e1 w2 ⟨rfl, hT⟩
        rw [HIN.out]
        go_wp2_with fail
        refine hK.out _ _ ?_ (fun hHeld => ?_)
        · exact R9.same (by with_reducible assumption) (by with_reducible assumption)
        clear hK K
        try simp only [Act.put, List.getElem_toArray, List.getElem_cons_succ, List.getElem_cons_zero, List.setIfInBounds_toArray, List.set_cons_zero, List.set_cons_succ]
        refine wpAnyH_take (i := 7) (v := ?_) rfl (by kernel_rfl) (by kernel_rfl) (by kernel_rfl) (fun _ _ _ h => h) (Or.inl ⟨by rfl, ?_⟩) (by assumption) ?_
        rotate_left
        · intro w hSw; (try dsimp only at hSw); go_simp; try with_reducible rfl
        try simp only [Act.put, List.getElem_toArray, List.getElem_cons_succ, List.getElem_cons_zero, List.setIfInBounds_toArray, List.set_cons_zero, List.set_cons_succ]
        refine wpAnyH_take (i := 8) (v := ?_) rfl (by kernel_rfl) (by kernel_rfl) (by kernel_rfl) (fun _ _ _ h => h) (Or.inl ⟨by rfl, ?_⟩) (by assumption) ?_
        rotate_left
        · intro w hSw; (try dsimp only at hSw); go_simp; try with_reducible rfl
        try simp only [Act.put, List.getElem_toArray, List.getElem_cons_succ, List.getElem_cons_zero, List.setIfInBounds_toArray, List.set_cons_zero, List.set_cons_succ]
        refine wpAnyH_take (i := 9) (v := undef) rfl (by kernel_rfl) (by kernel_rfl) (by kernel_rfl) (fun _ _ _ h => h) (Or.inr ⟨by rfl, rfl⟩) (by assumption) ?_
        try simp only [Act.put, List.getElem_toArray, List.getElem_cons_succ, List.getElem_cons_zero, List.setIfInBounds_toArray, List.set_cons_zero, List.set_cons_succ]
        refine wpAnyH_take (i := 10) (v := undef) rfl (by kernel_rfl) (by kernel_rfl) (by kernel_rfl) (fun _ _ _ h => h) (Or.inr ⟨by rfl, rfl⟩) (by assumption) ?_
        try simp only [Act.put, List.getElem_toArray, List.getElem_cons_succ, List.getElem_cons_zero, List.setIfInBounds_toArray, List.set_cons_zero, List.set_cons_succ]
        refine wpAnyH_take (i := 11) (v := undef) rfl (by kernel_rfl) (by kernel_rfl) (by kernel_rfl) (fun _ _ _ h => h) (Or.inr ⟨by rfl, rfl⟩) (by assumption) ?_
        try simp only [Act.put, List.getElem_toArray, List.getElem_cons_succ, List.getElem_cons_zero, List.setIfInBounds_toArray, List.set_cons_zero, List.set_cons_succ]
        refine wpAnyH_take (i := 12) (v := undef) rfl (by kernel_rfl) (by kernel_rfl) (by kernel_rfl) (fun _ _ _ h => h) (Or.inr ⟨by rfl, rfl⟩) (by assumption) ?_
        try simp only [Act.put, List.getElem_toArray, List.getElem_cons_succ, List.getElem_cons_zero, List.setIfInBounds_toArray, List.set_cons_zero, List.set_cons_succ]
        refine wpAnyH_take (i := 13) (v := undef) rfl (by kernel_rfl) (by kernel_rfl) (by kernel_rfl) (fun _ _ _ h => h) (Or.inr ⟨by rfl, rfl⟩) (by assumption) ?_
        try simp only [Act.put, List.getElem_toArray, List.getElem_cons_succ, List.getElem_cons_zero, List.setIfInBounds_toArray, List.set_cons_zero, List.set_cons_succ]
        refine wpAnyH_take (i := 14) (v := undef) rfl (by kernel_rfl) (by kernel_rfl) (by kernel_rfl) (fun _ _ _ h => h) (Or.inr ⟨by rfl, rfl⟩) (by assumption) ?_
        try simp only [Act.put, List.getElem_toArray, List.getElem_cons_succ, List.getElem_cons_zero, List.setIfInBounds_toArray, List.set_cons_zero, List.set_cons_succ]
        refine wpAnyH_take (i := 15) (v := undef) rfl (by kernel_rfl) (by kernel_rfl) (by kernel_rfl) (fun _ _ _ h => h) (Or.inr ⟨by rfl, rfl⟩) (by assumption) ?_
        try simp only [Act.put, List.getElem_toArray, List.getElem_cons_succ, List.getElem_cons_zero, List.setIfInBounds_toArray, List.set_cons_zero, List.set_cons_succ]
        refine wpAnyH_take (i := 16) (v := undef) rfl (by kernel_rfl) (by kernel_rfl) (by kernel_rfl) (fun _ _ _ h => h) (Or.inr ⟨by rfl, rfl⟩) (by assumption) ?_
        try simp only [Act.put, List.getElem_toArray, List.getElem_cons_succ, List.getElem_cons_zero, List.setIfInBounds_toArray, List.set_cons_zero, List.set_cons_succ]
        refine wpAnyH_take (i := 17) (v := ?_) rfl (by kernel_rfl) (by kernel_rfl) (by kernel_rfl) (fun _ _ _ h => h) (Or.inl ⟨by rfl, ?_⟩) (by assumption) ?_
        rotate_left
        · intro w hSw; (try dsimp only at hSw); go_simp; try with_reducible rfl
        try simp only [Act.put, List.getElem_toArray, List.getElem_cons_succ, List.getElem_cons_zero, List.setIfInBounds_toArray, List.set_cons_zero, List.set_cons_succ]
        refine wpAnyH_done (by kernel_rfl) ?_ _
        go_wp2_with fail
        go_ret
        exact ⟨by rw [HV.out]; rfl, hHeld.base⟩
      have HIN := Lib.hid (inB_yes hin)
      have HINP := Lib.hid hin
      clear hin
      by_cases hfn : fn = n0
      case neg =>
        have d3 : ((fn : Int) != n0) = true := by simp; omega
        have HV := Lib.hid (sizeS_no (P := P) (Q := Q) (ts := ts) (bs := bs) (fun h => hfn (by have := (h.rows j (by rw [HLB.out]; exact hlt)).1; rw [HROW.out, HFL.out, HN0.out] at this; exact this)))
        go_upto_region 9 with fail
        clear c0 c1 b0 b1 b2 b3 b4 hS
        refine wp_region_held_drew (S := fun w' => R9 w gx cx tb (tq + j) mb (mo + j) P Q G H ra rn rc (.slice (some ⟨tb, tq, none⟩) bn tc) (.slice (some ⟨mb, mo, none⟩) bn bc) x (.slice fa fn fc) w') (by kernel_rfl) HR0.out (fun hHeld => ?_)
        refine wpAnyH_take (i := 0) (v := ?_) rfl (by kernel_rfl) (by kernel_rfl) (by kernel_rfl) (fun _ _ _ h => h) (Or.inl ⟨by rfl, ?_⟩) (by assumption) ?_
        rotate_left
        · intro w hSw; (try dsimp only at hSw); go_simp; try with_reducible rfl
        try simp only [Act.put, List.getElem_toArray, List.getElem_cons_succ, List.getElem_cons_zero, List.setIfInBounds_toArray, List.set_cons_zero, List.set_cons_succ]
        refine wpAnyH_take (i := 1) (v := ?_) rfl (by kernel_rfl) (by kernel_rfl) (by kernel_rfl) (fun _ _ _ h => h) (Or.inl ⟨by rfl, ?_⟩) (by assumption) ?_
        rotate_left
        · intro w hSw; (try dsimp only at hSw); go_simp; try with_reducible rfl
        try simp only [Act.put, List.getElem_toArray, List.getElem_cons_succ, List.getElem_cons_zero, List.setIfInBounds_toArray, List.set_cons_zero, List.set_cons_succ]
        refine wpAnyH_take (i := 2) (v := ?_) rfl (by kernel_rfl) (by kernel_rfl) (by kernel_rfl) (fun _ _ _ h => h) (Or.inl ⟨by rfl, ?_⟩) (by assumption) ?_
        rotate_left
        · intro w hSw; (try dsimp only at hSw); go_simp; try with_reducible rfl
        try simp only [Act.put, List.getElem_toArray, List.getElem_cons_succ, List.getElem_cons_zero, List.setIfInBounds_toArray, List.set_cons_zero, List.set_cons_succ]
        refine wpAnyH_take (i := 3) (v := ?_) rfl (by kernel_rfl) (by kernel_rfl) (by kernel_rfl) (fun _ _ _ h => h) (Or.inl ⟨by rfl, ?_⟩) (by assumption) ?_
        rotate_left
        · intro w hSw; (try dsimp only at hSw); go_simp; try with_reducible rfl
        try simp only [Act.put, List.getElem_toArray, List.getElem_cons_succ, List.getElem_cons_zero, List.setIfInBounds_toArray, List.set_cons_zero, List.set_cons_succ]
        refine wpAnyH_take (i := 4) (v := ?_) rfl (by kernel_rfl) (by kernel_rfl) (by kernel_rfl) (fun _ _ _ h => h) (Or.inl ⟨by rfl, ?_⟩) (by assumption) ?_
        rotate_left
        · intro w hSw; (try dsimp only at hSw); go_simp; try with_reducible rfl
        try simp only [Act.put, List.getElem_toArray, List.getElem_cons_succ, List.getElem_cons_zero, List.setIfInBounds_toArray, List.set_cons_zero, List.set_cons_succ]
        refine wpAnyH_take (i := 5) (v := ?_) rfl (by kernel_rfl) (by kernel_rfl) (by kernel_rfl) (fun _ _ _ h => h) (Or.inl ⟨by rfl, ?_⟩) (by assumption) ?_
        rotate_left
        · intro w hSw; (try dsimp only at hSw); go_simp; try with_reducible rfl
        try simp only [Act.put, List.getElem_toArray, List.getElem_cons_succ, List.getElem_cons_zero, List.setIfInBounds_toArray, List.set_cons_zero, List.set_cons_succ]
        refine wpAnyH_ready (rs := [6]) (by kernel_rfl) (by simp) ?_
        refine AllReadyH.cons rfl (fun K hK => ?_) AllReadyH.nil
        go_simp
        refine (rin_any P Q G H ra rn rc x HU.out.1.1 HU.out.2.1 HU.out.2.2 HX0.out _).mono ?_
        rintro e1 w2 ⟨rfl, hT⟩
        rw [HIN.out]
        go_wp2_with fail
        refine hK.out _ _ ?_ (fun hHeld => ?_)
        · exact R9.same (by with_reducible assumption) (by with_reducible assumption)
        clear hK K
        try simp only [Act.put, List.getElem_toArray, List.getElem_cons_succ, List.getElem_cons_zero, List.setIfInBounds_toArray, List.set_cons_zero, List.set_cons_succ]
        refine wpAnyH_take (i := 7) (v := ?_) rfl (by kernel_rfl) (by kernel_rfl) (by kernel_rfl) (fun _ _ _ h => h) (Or.inl ⟨by rfl, ?_⟩) (by assumption) ?_
        rotate_left
        · intro w hSw; (try dsimp only at hSw); go_simp; try with_reducible rfl
        try simp only [Act.put, List.getElem_toArray, List.getElem_cons_succ, List.getElem_cons_zero, List.setIfInBounds_toArray, List.set_cons_zero, List.set_cons_succ]
        refine wpAnyH_take (i := 8) (v := ?_) rfl (by kernel_rfl) (by kernel_rfl) (by kernel_rfl) (fun _ _ _ h => h) (Or.inl ⟨by rfl, ?_⟩) (by assumption) ?_
        rotate_left
        · intro w hSw; (try dsimp only at hSw); go_simp; try with_reducible rfl
        try simp only [Act.put, List.getElem_toArray, List.getElem_cons_succ, List.getElem_cons_zero, List.setIfInBounds_toArray, List.set_cons_zero, List.set_cons_succ]
        refine wpAnyH_take (i := 9) (v := ?_) rfl (by kernel_rfl) (by kernel_rfl) (by kernel_rfl) (fun _ _ _ h => h) (Or.inl ⟨by rfl, ?_⟩) (by assumption) ?_
        rotate_left
        · intro w hSw; (try dsimp only at hSw); go_simp; try with_reducible rfl
        try simp only [Act.put, List.getElem_toArray, List.getElem_cons_succ, List.getElem_cons_zero, List.setIfInBounds_toArray, List.set_cons_zero, List.set_cons_succ]
        refine wpAnyH_take (i := 10) (v := ?_) rfl (by kernel_rfl) (by kernel_rfl) (by kernel_rfl) (fun _ _ _ h => h) (Or.inl ⟨by rfl, ?_⟩) (by assumption) ?_
        rotate_left
        · intro w hSw; (try dsimp only at hSw); go_simp; try with_reducible rfl
        try simp only [Act.put, List.getElem_toArray, List.getElem_cons_succ, List.getElem_cons_zero, List.setIfInBounds_toArray, List.set_cons_zero, List.set_cons_succ]
        refine wpAnyH_take (i := 11) (v := ?_) rfl (by kernel_rfl) (by kernel_rfl) (by kernel_rfl) (fun _ _ _ h => h) (Or.inl ⟨by rfl, ?_⟩) (by assumption) ?_
        rotate_left
        · intro w hSw; (try dsimp only at hSw); go_simp; try with_reducible rfl
        try simp only [Act.put, List.getElem_toArray, List.getElem_cons_succ, List.getElem_cons_zero, List.setIfInBounds_toArray, List.set_cons_zero, List.set_cons_succ]
        refine wpAnyH_take (i := 12) (v := ?_) rfl (by kernel_rfl) (by kernel_rfl) (by kernel_rfl) (fun _ _ _ h => h) (Or.inl ⟨by rfl, ?_⟩) (by assumption) ?_
        rotate_left
        · intro w hSw; (try dsimp only at hSw); go_simp; try with_reducible rfl
        try simp only [Act.put, List.getElem_toArray, List.getElem_cons_succ, List.getElem_cons_zero, List.setIfInBounds_toArray, List.set_cons_zero, List.set_cons_succ]
        refine wpAnyH_take (i := 13) (v := ?_) rfl (by kernel_rfl) (by kernel_rfl) (by kernel_rfl) (fun _ _ _ h => h) (Or.inl ⟨by rfl, ?_⟩) (by assumption) ?_
        rotate_left
        · intro w hSw; (try dsimp only at hSw); go_simp; try with_reducible rfl
        try simp only [Act.put, List.getElem_toArray, List.getElem_cons_succ, List.getElem_cons_zero, List.setIfInBounds_toArray, List.set_cons_zero, List.set_cons_succ]
        refine wpAnyH_take (i := 14) (v := ?_) rfl (by kernel_rfl) (by kernel_rfl) (by kernel_rfl) (fun _ _ _ h => h) (Or.inl ⟨by rfl, ?_⟩) (by assumption) ?_
        rotate_left
        · intro w hSw; (try dsimp only at hSw); go_simp; try with_reducible rfl
        try simp only [Act.put, List.getElem_toArray, List.getElem_cons_succ, List.getElem_cons_zero, List.setIfInBounds_toArray, List.set_cons_zero, List.set_cons_succ]
        refine wpAnyH_take (i := 15) (v := ?_) rfl (by kernel_rfl) (by kernel_rfl) (by kernel_rfl) (fun _ _ _ h => h) (Or.inl ⟨by rfl, ?_⟩) (by assumption) ?_
        rotate_left
        · intro w hSw; (try dsimp only at hSw); go_simp; try with_reducible rfl
        try simp only [Act.put, List.getElem_toArray, List.getElem_cons_succ, List.getElem_cons_zero, List.setIfInBounds_toArray, List.set_cons_zero, List.set_cons_succ]
        refine wpAnyH_take (i := 16) (v := ?_) rfl (by kernel_rfl) (by kernel_rfl) (by kernel_rfl) (fun _ _ _ h => h) (Or.inl ⟨by rfl, ?_⟩) (by assumption) ?_
        rotate_left
        · intro w hSw; (try dsimp only at hSw); go_simp; try with_reducible rfl
        try simp only [Act.put, List.getElem_toArray, List.getElem_cons_succ, List.getElem_cons_zero, List.setIfInBounds_toArray, List.set_cons_zero, List.set_cons_succ]
        refine wpAnyH_take (i := 17) (v := ?_) rfl (by kernel_rfl) (by kernel_rfl) (by kernel_rfl) (fun _ _ _ h => h) (Or.inl ⟨by rfl, ?_⟩) (by assumption) ?_
        rotate_left
        · intro w hSw; (try dsimp only at hSw); go_simp; try with_reducible rfl
        try simp only [Act.put, List.getElem_toArray, List.getElem_cons_succ, List.getElem_cons_zero, List.setIfInBounds_toArray, List.set_cons_zero, List.set_cons_succ]
        refine wpAnyH_done (by kernel_rfl) ?_ _
        go_wp2_with fail
        go_ret
        exact ⟨by rw [HV.out]; rfl, hHeld.base⟩
      subst hfn
      have d3 : ((fn : Int) != fn) = false := by simp
      go_upto_region 9 with fail
      clear c0 c1 b0 b1 b2 b3 b4 hS
      refine wp_region_held_drew (S := fun w' => R9 w gx cx tb (tq + j) mb (mo + j) P Q G H ra rn rc (.slice (some ⟨tb, tq, none⟩) bn tc) (.slice (some ⟨mb, mo, none⟩) bn bc) x (.slice fa fn fc) w') (by kernel_rfl) HR0.out (fun hHeld => ?_)
      refine wpAnyH_take (i := 0) (v := ?_) rfl (by kernel_rfl) (by kernel_rfl) (by kernel_rfl) (fun _ _ _ h => h) (Or.inl ⟨by rfl, ?_⟩) (by assumption) ?_
      rotate_left
      · intro w hSw; (try dsimp only at hSw); go_simp; try with_reducible rfl
      try simp only [Act.put, List.getElem_toArray, List.getElem_cons_succ, List.getElem_cons_zero, List.setIfInBounds_toArray, List.set_cons_zero, List.set_cons_succ]
      refine wpAnyH_take (i := 1) (v := ?_) rfl (by kernel_rfl) (by kernel_rfl) (by kernel_rfl) (fun _ _ _ h => h) (Or.inl ⟨by rfl, ?_⟩) (by assumption) ?_
      rotate_left
      · intro w hSw; (try dsimp only at hSw); go_simp; try with_reducible rfl
      try simp only [Act.put, List.getElem_toArray, List.getElem_cons_succ, List.getElem_cons_zero, List.setIfInBounds_toArray, List.set_cons_zero, List.set_cons_succ]
      refine wpAnyH_take (i := 2) (v := ?_) rfl (by kernel_rfl) (by kernel_rfl) (by kernel_rfl) (fun _ _ _ h => h) (Or.inl ⟨by rfl, ?_⟩) (by assumption) ?_
      rotate_left
      · intro w hSw; (try dsimp only at hSw); go_simp; try with_reducible rfl
      try simp only [Act.put, List.getElem_toArray, List.getElem_cons_succ, List.getElem_cons_zero, List.setIfInBounds_toArray, List.set_cons_zero, List.set_cons_succ]
      refine wpAnyH_take (i := 3) (v := ?_) rfl (by kernel_rfl) (by kernel_rfl) (by kernel_rfl) (fun _ _ _ h => h) (Or.inl ⟨by rfl, ?_⟩) (by assumption) ?_
      rotate_left
      · intro w hSw; (try dsimp only at hSw); go_simp; try with_reducible rfl
      try simp only [Act.put, List.getElem_toArray, List.getElem_cons_succ, List.getElem_cons_zero, List.setIfInBounds_toArray, List.set_cons_zero, List.set_cons_succ]
      refine wpAnyH_take (i := 4) (v := ?_) rfl (by kernel_rfl) (by kernel_rfl) (by kernel_rfl) (fun _ _ _ h => h) (Or.inl ⟨by rfl, ?_⟩) (by assumption) ?_
      rotate_left
      · intro w hSw; (try dsimp only at hSw); go_simp; try with_reducible rfl
      try simp only [Act.put, List.getElem_toArray, List.getElem_cons_succ, List.getElem_cons_zero, List.setIfInBounds_toArray, List.set_cons_zero, List.set_cons_succ]
      refine wpAnyH_take (i := 5) (v := ?_) rfl (by kernel_rfl) (by kernel_rfl) (by kernel_rfl) (fun _ _ _ h => h) (Or.inl ⟨by rfl, ?_⟩) (by assumption) ?_
      rotate_left
      · intro w hSw; (try dsimp only at hSw); go_simp; try with_reducible rfl
      try simp only [Act.put, List.getElem_toArray, List.getElem_cons_succ, List.getElem_cons_zero, List.setIfInBounds_toArray, List.set_cons_zero, List.set_cons_succ]
      refine wpAnyH_ready (rs := [6]) (by kernel_rfl) (by simp) ?_
      refine AllReadyH.cons rfl (fun K hK => ?_) AllReadyH.nil
      go_simp
      refine (rin_any P Q G H ra rn rc x HU.out.1.1 HU.out.2.1 HU.out.2.2 HX0.out _).mono ?_
      rintro e1 w2 ⟨rfl, hT⟩
      rw [HIN.out]
      go_wp2_with fail
      refine hK.out _ _ ?_ (fun hHeld => ?_)
      · exact R9.same (by with_reducible assumption) (by with_reducible assumption)
      clear hK K
      try simp only [Act.put, List.getElem_toArray, List.getElem_cons_succ, List.getElem_cons_zero, List.setIfInBounds_toArray, List.set_cons_zero, List.set_cons_succ]
      refine wpAnyH_take (i := 7) (v := ?_) rfl (by kernel_rfl) (by kernel_rfl) (by kernel_rfl) (fun _ _ _ h => h) (Or.inl ⟨by rfl, ?_⟩) (by assumption) ?_
      rotate_left
      · intro w hSw; (try dsimp only at hSw); go_simp; try with_reducible rfl
      try simp only [Act.put, List.getElem_toArray, List.getElem_cons_succ, List.getElem_cons_zero, List.setIfInBounds_toArray, List.set_cons_zero, List.set_cons_succ]
      refine wpAnyH_take (i := 8) (v := ?_) rfl (by kernel_rfl) (by kernel_rfl) (by kernel_rfl) (fun _ _ _ h => h) (Or.inl ⟨by rfl, ?_⟩) (by assumption) ?_
      rotate_left
      · intro w hSw; (try dsimp only at hSw); go_simp; try with_reducible rfl
      try simp only [Act.put, List.getElem_toArray, List.getElem_cons_succ, List.getElem_cons_zero, List.setIfInBounds_toArray, List.set_cons_zero, List.set_cons_succ]
      refine wpAnyH_take (i := 9) (v := ?_) rfl (by kernel_rfl) (by kernel_rfl) (by kernel_rfl) (fun _ _ _ h => h) (Or.inl ⟨by rfl, ?_⟩) (by assumption) ?_
      rotate_left
      · intro w hSw; (try dsimp only at hSw); go_simp; try with_reducible rfl
      try simp only [Act.put, List.getElem_toArray, List.getElem_cons_succ, List.getElem_cons_zero, List.setIfInBounds_toArray, List.set_cons_zero, List.set_cons_succ]
      refine wpAnyH_take (i := 10) (v := ?_) rfl (by kernel_rfl) (by kernel_rfl) (by kernel_rfl) (fun _ _ _ h => h) (Or.inl ⟨by rfl, ?_⟩) (by assumption) ?_
      rotate_left
      · intro w hSw; (try dsimp only at hSw); go_simp; try with_reducible rfl
      try simp only [Act.put, List.getElem_toArray, List.getElem_cons_succ, List.getElem_cons_zero, List.setIfInBounds_toArray, List.set_cons_zero, List.set_cons_succ]
      refine wpAnyH_take (i := 11) (v := ?_) rfl (by kernel_rfl) (by kernel_rfl) (by kernel_rfl) (fun _ _ _ h => h) (Or.inl ⟨by rfl, ?_⟩) (by assumption) ?_
      rotate_left
      · intro w hSw; (try dsimp only at hSw); go_simp; try with_reducible rfl
      try simp only [Act.put, List.getElem_toArray, List.getElem_cons_succ, List.getElem_cons_zero, List.setIfInBounds_toArray, List.set_cons_zero, List.set_cons_succ]
      refine wpAnyH_take (i := 12) (v := ?_) rfl (by kernel_rfl) (by kernel_rfl) (by kernel_rfl) (fun _ _ _ h => h) (Or.inl ⟨by rfl, ?_⟩) (by assumption) ?_
      rotate_left
      · intro w hSw; (try dsimp only at hSw); go_simp; try with_reducible rfl
      try simp only [Act.put, List.getElem_toArray, List.getElem_cons_succ, List.getElem_cons_zero, List.setIfInBounds_toArray, List.set_cons_zero, List.set_cons_succ]
      refine wpAnyH_take (i := 13) (v := ?_) rfl (by kernel_rfl) (by kernel_rfl) (by kernel_rfl) (fun _ _ _ h => h) (Or.inl ⟨by rfl, ?_⟩) (by assumption) ?_
      rotate_left
      · intro w hSw; (try dsimp only at hSw); go_simp; try with_reducible rfl
      try simp only [Act.put, List.getElem_toArray, List.getElem_cons_succ, List.getElem_cons_zero, List.setIfInBounds_toArray, List.set_cons_zero, List.set_cons_succ]
      refine wpAnyH_take (i := 14) (v := ?_) rfl (by kernel_rfl) (by kernel_rfl) (by kernel_rfl) (fun _ _ _ h => h) (Or.inl ⟨by rfl, ?_⟩) (by assumption) ?_
      rotate_left
      · intro w hSw; (try dsimp only at hSw); go_simp; try with_reducible rfl
      try simp only [Act.put, List.getElem_toArray, List.getElem_cons_succ, List.getElem_cons_zero, List.setIfInBounds_toArray, List.set_cons_zero, List.set_cons_succ]
      refine wpAnyH_take (i := 15) (v := ?_) rfl (by kernel_rfl) (by kernel_rfl) (by kernel_rfl) (fun _ _ _ h => h) (Or.inl ⟨by rfl, ?_⟩) (by assumption) ?_
      rotate_left
      · intro w hSw; (try dsimp only at hSw); go_simp; try with_reducible rfl
      try simp only [Act.put, List.getElem_toArray, List.getElem_cons_succ, List.getElem_cons_zero, List.setIfInBounds_toArray, List.set_cons_zero, List.set_cons_succ]
      refine wpAnyH_take (i := 16) (v := ?_) rfl (by kernel_rfl) (by kernel_rfl) (by kernel_rfl) (fun _ _ _ h => h) (Or.inl ⟨by rfl, ?_⟩) (by assumption) ?_
      rotate_left
      · intro w hSw; (try dsimp only at hSw); go_simp; try with_reducible rfl
      try simp only [Act.put, List.getElem_toArray, List.getElem_cons_succ, List.getElem_cons_zero, List.setIfInBounds_toArray, List.set_cons_zero, List.set_cons_succ]
      refine wpAnyH_take (i := 17) (v := ?_) rfl (by kernel_rfl) (by kernel_rfl) (by kernel_rfl) (fun _ _ _ h => h) (Or.inl ⟨by rfl, ?_⟩) (by assumption) ?_
      rotate_left
      · intro w hSw; (try dsimp only at hSw); go_simp; try with_reducible rfl
      try simp only [Act.put, List.getElem_toArray, List.getElem_cons_succ, List.getElem_cons_zero, List.setIfInBounds_toArray, List.set_cons_zero, List.set_cons_succ]
      refine wpAnyH_done (by kernel_rfl) ?_ _
      have HR1 := Lib.hid hHeld
      clear hHeld d3
      go_wp2_with fail
      go_loopw [7] (fun s7 wq => ∃ k : Nat, s7 = .int .i64 k ∧ k ≤ fn ∧ Hid (∀ i, i < k → InP P Q (row.getD i 0)) ∧ Hid (ClS w gx cx P Q G H ra rn rc (.slice (some ⟨tb, tq, none⟩) bn tc) (.slice (some ⟨mb, mo, none⟩) bn bc) wq)) (fun s7 _ => fn - (intOf s7).toNat)
      case atStart => exact ⟨0, rfl, by omega, fun i hi => by omega, HR1.out.2.2⟩
      case round =>
        obtain ⟨k, rfl, hk, hup2, HBq⟩ := hrel
        obtain ⟨c0, c1, b0, b1, b2, b3, b4, hS⟩ := HBq.out
        by_cases hlt2 : k < fn
        · obtain ⟨eb, eo, hea, hec⟩ := HF.out.cells (by omega)
          subst hea
          have hce := same_cell hS (hec k hlt2)
          have hch := same_cell hS HCW.out
          have hz0 := (HF.out.bd k).1
          obtain ⟨z, ez⟩ : ∃ z, row.getD k 0 = z := ⟨_, rfl⟩
          rw [ez] at hce hz0
          have HZ := Lib.hid ez
          have HZ0 := Lib.hid hz0
          have hk0 : (0 : Int) ≤ k := by omega
          have hk1 : (k : Int) < fn := by omega
          have HR2 := Lib.hid (show R14 w gx cx eb (eo + k) mb (mo + j) P Q G H ra rn rc (.slice (some ⟨tb, tq, none⟩) bn tc) (.slice (some ⟨mb, mo, none⟩) bn bc) z (.slice (some ⟨eb, eo, none⟩) fn fc) wr.drew from R14.same ⟨hce, hch, HBq.out⟩ (drew_same _))
          clear hec hce hch ez hz0
          by_cases hin : InP P Q z
          case neg =>
            have HIN2 := Lib.hid (inB_no hin)
            have HV := Lib.hid (sizeS_no (P := P) (Q := Q) (ts := ts) (bs := bs) (fun h => hin (by
              have h1 := (h.rows j (by rw [HLB.out]; exact hlt)).2
              rw [HROW.out] at h1
              rw [← HZ.out]; exact h1.at (by rw [HFL.out]; exact hlt2))))
            clear hin
            go_upto_region 14 with fail
            clear c0 c1 b0 b1 b2 b3 b4 hS
            refine wp_region_held_drew (S := fun w' => R14 w gx cx eb (eo + k) mb (mo + j) P Q G H ra rn rc (.slice (some ⟨tb, tq, none⟩) bn tc) (.slice (some ⟨mb, mo, none⟩) bn bc) z (.slice (some ⟨eb, eo, none⟩) fn fc) w') (by kernel_rfl) HR2.out (fun hHeld => ?_)
            refine wpAnyH_take (i := 0) (v := ?_) rfl (by kernel_rfl) (by kernel_rfl) (by kernel_rfl) (fun _ _ _ h => h) (Or.inl ⟨by rfl, ?_⟩) (by assumption) ?_
            rotate_left
            · intro w hSw; (try dsimp only at hSw); go_simp; try with_reducible rfl
            try simp only [Act.put, List.getElem_toArray, List.getElem_cons_succ, List.getElem_cons_zero, List.setIfInBounds_toArray, List.set_cons_zero, List.set_cons_succ]
            refine wpAnyH_take (i := 1) (v := ?_) rfl (by kernel_rfl) (by kernel_rfl) (by kernel_rfl) (fun _ _ _ h => h) (Or.inl ⟨by rfl, ?_⟩) (by assumption) ?_
            rotate_left
            · intro w hSw; (try dsimp only at hSw); go_simp; try with_reducible rfl
            try simp only [Act.put, List.getElem_toArray, List.getElem_cons_succ, List.getElem_cons_zero, List.setIfInBounds_toArray, List.set_cons_zero, List.set_cons_succ]
            refine wpAnyH_take (i := 2) (v := ?_) rfl (by kernel_rfl) (by kernel_rfl) (by kernel_rfl) (fun _ _ _ h => h) (Or.inl ⟨by rfl, ?_⟩) (by assumption) ?_
            rotate_left
            · intro w hSw; (try dsimp only at hSw); go_simp; try with_reducible rfl
            try simp only [Act.put, List.getElem_toArray, List.getElem_cons_succ, List.getElem_cons_zero, List.setIfInBounds_toArray, List.set_cons_zero, List.set_cons_succ]
            refine wpAnyH_take (i := 3) (v := ?_) rfl (by kernel_rfl) (by kernel_rfl) (by kernel_rfl) (fun _ _ _ h => h) (Or.inl ⟨by rfl, ?_⟩) (by assumption) ?_
            rotate_left
            · intro w hSw; (try dsimp only at hSw); go_simp; try with_reducible rfl
            try simp only [Act.put, List.getElem_toArray, List.getElem_cons_succ, List.getElem_cons_zero, List.setIfInBounds_toArray, List.set_cons_zero, List.set_cons_succ]
            refine wpAnyH_take (i := 4) (v := ?_) rfl (by kernel_rfl) (by kernel_rfl) (by kernel_rfl) (fun _ _ _ h => h) (Or.inl ⟨by rfl, ?_⟩) (by assumption) ?_
            rotate_left
            · intro w hSw; (try dsimp only at hSw); go_simp; try with_reducible rfl
            try simp only [Act.put, List.getElem_toArray, List.getElem_cons_succ, List.getElem_cons_zero, List.setIfInBounds_toArray, List.set_cons_zero, List.set_cons_succ]
            refine wpAnyH_take (i := 5) (v := ?_) rfl (by kernel_rfl) (by kernel_rfl) (by kernel_rfl) (fun _ _ _ h => h) (Or.inl ⟨by rfl, ?_⟩) (by assumption) ?_
            rotate_left
            · intro w hSw; (try dsimp only at hSw); go_simp; try with_reducible rfl
            try simp only [Act.put, List.getElem_toArray, List.getElem_cons_succ, List.getElem_cons_zero, List.setIfInBounds_toArray, List.set_cons_zero, List.set_cons_succ]
            refine wpAnyH_take (i := 6) (v := ?_) rfl (by kernel_rfl) (by kernel_rfl) (by kernel_rfl) (fun _ _ _ h => h) (Or.inl ⟨by rfl, ?_⟩) (by assumption) ?_
            rotate_left
            · intro w hSw; (try dsimp only at hSw); go_simp; try with_reducible rfl
            try simp only [Act.put, List.getElem_toArray, List.getElem_cons_succ, List.getElem_cons_zero, List.setIfInBounds_toArray, List.set_cons_zero, List.set_cons_succ]
            refine wpAnyH_take (i := 7) (v := ?_) rfl (by kernel_rfl) (by kernel_rfl) (by kernel_rfl) (fun _ _ _ h => h) (Or.inl ⟨by rfl, ?_⟩) (by assumption) ?_
            rotate_left
            · intro w hSw; (try dsimp only at hSw); go_simp; try with_reducible rfl
            try simp only [Act.put, List.getElem_toArray, List.getElem_cons_succ, List.getElem_cons_zero, List.setIfInBounds_toArray, List.set_cons_zero, List.set_cons_succ]
            refine wpAnyH_take (i := 8) (v := ?_) rfl (by kernel_rfl) (by kernel_rfl) (by kernel_rfl) (fun _ _ _ h => h) (Or.inl ⟨by rfl, ?_⟩) (by assumption) ?_
            rotate_left
            · intro w hSw; (try dsimp only at hSw); go_simp; try with_reducible rfl
            try simp only [Act.put, List.getElem_toArray, List.getElem_cons_succ, List.getElem_cons_zero, List.setIfInBounds_toArray, List.set_cons_zero, List.set_cons_succ]
            refine wpAnyH_ready (rs := [9]) (by kernel_rfl) (by simp) ?_
            refine AllReadyH.cons rfl (fun K hK => ?_) AllReadyH.nil
            go_simp
            refine (rin_any P Q G H ra rn rc z HU.out.1.1 HU.out.2.1 HU.out.2.2 HZ0.out _).mono ?_
            rintro e1 w3 ⟨rfl, hT2⟩
            rw [HIN2.out]
            go_wp2_with fail
            refine hK.out _ _ ?_ (fun hHeld => ?_)
            · exact R14.same (by with_reducible assumption) (by with_reducible assumption)
            clear hK K
            try simp only [Act.put, List.getElem_toArray, List.getElem_cons_succ, List.getElem_cons_zero, List.setIfInBounds_toArray, List.set_cons_zero, List.set_cons_succ]
            refine wpAnyH_take (i := 10) (v := ?_) rfl (by kernel_rfl) (by kernel_rfl) (by kernel_rfl) (fun _ _ _ h => h) (Or.inl ⟨by rfl, ?_⟩) (by assumption) ?_
            rotate_left
            · intro w hSw; (try dsimp only at hSw); go_simp; try with_reducible rfl
            try simp only [Act.put, List.getElem_toArray, List.getElem_cons_succ, List.getElem_cons_zero, List.setIfInBounds_toArray, List.set_cons_zero, List.set_cons_succ]
            refine wpAnyH_done (by kernel_rfl) ?_ _
            go_wp2_with fail
            go_ret
            exact ⟨by rw [HV.out]; rfl, hHeld.base⟩
          have HIN2 := Lib.hid (inB_yes hin)
          have hup4 : Hid (∀ i, i < k + 1 → InP P Q (row.getD i 0)) := fun i hi => by
            by_cases e : i = k
            · subst e; rw [HZ.out]; exact hin
            · exact hup2.out i (by omega)
          clear hin
          go_upto_region 14 with fail
          clear c0 c1 b0 b1 b2 b3 b4 hS
          refine wp_region_held_drew (S := fun w' => R14 w gx cx eb (eo + k) mb (mo + j) P Q G H ra rn rc (.slice (some ⟨tb, tq, none⟩) bn tc) (.slice (some ⟨mb, mo, none⟩) bn bc) z (.slice (some ⟨eb, eo, none⟩) fn fc) w') (by kernel_rfl) HR2.out (fun hHeld => ?_)
          refine wpAnyH_take (i := 0) (v := ?_) rfl (by kernel_rfl) (by kernel_rfl) (by kernel_rfl) (fun _ _ _ h => h) (Or.inl ⟨by rfl, ?_⟩) (by assumption) ?_
          rotate_left
          · intro w hSw; (try dsimp only at hSw); go_simp; try with_reducible rfl
          try simp only [Act.put, List.getElem_toArray, List.getElem_cons_succ, List.getElem_cons_zero, List.setIfInBounds_toArray, List.set_cons_zero, List.set_cons_succ]
          refine wpAnyH_take (i := 1) (v := ?_) rfl (by kernel_rfl) (by kernel_rfl) (by kernel_rfl) (fun _ _ _ h => h) (Or.inl ⟨by rfl, ?_⟩) (by assumption) ?_
          rotate_left
          · intro w hSw; (try dsimp only at hSw); go_simp; try with_reducible rfl
          try simp only [Act.put, List.getElem_toArray, List.getElem_cons_succ, List.getElem_cons_zero, List.setIfInBounds_toArray, List.set_cons_zero, List.set_cons_succ]
          refine wpAnyH_take (i := 2) (v := ?_) rfl (by kernel_rfl) (by kernel_rfl) (by kernel_rfl) (fun _ _ _ h => h) (Or.inl ⟨by rfl, ?_⟩) (by assumption) ?_
          rotate_left
          · intro w hSw; (try dsimp only at hSw); go_simp; try with_reducible rfl
          try simp only [Act.put, List.getElem_toArray, List.getElem_cons_succ, List.getElem_cons_zero, List.setIfInBounds_toArray, List.set_cons_zero, List.set_cons_succ]
          refine wpAnyH_take (i := 3) (v := ?_) rfl (by kernel_rfl) (by kernel_rfl) (by kernel_rfl) (fun _ _ _ h => h) (Or.inl ⟨by rfl, ?_⟩) (by assumption) ?_
          rotate_left
          · intro w hSw; (try dsimp only at hSw); go_simp; try with_reducible rfl
          try simp only [Act.put, List.getElem_toArray, List.getElem_cons_succ, List.getElem_cons_zero, List.setIfInBounds_toArray, List.set_cons_zero, List.set_cons_succ]
          refine wpAnyH_take (i := 4) (v := ?_) rfl (by kernel_rfl) (by kernel_rfl) (by kernel_rfl) (fun _ _ _ h => h) (Or.inl ⟨by rfl, ?_⟩) (by assumption) ?_
          rotate_left
          · intro w hSw; (try dsimp only at hSw); go_simp; try with_reducible rfl
          try simp only [Act.put, List.getElem_toArray, List.getElem_cons_succ, List.getElem_cons_zero, List.setIfInBounds_toArray, List.set_cons_zero, List.set_cons_succ]
          refine wpAnyH_take (i := 5) (v := ?_) rfl (by kernel_rfl) (by kernel_rfl) (by kernel_rfl) (fun _ _ _ h => h) (Or.inl ⟨by rfl, ?_⟩) (by assumption) ?_
          rotate_left
          · intro w hSw; (try dsimp only at hSw); go_simp; try with_reducible rfl
          try simp only [Act.put, List.getElem_toArray, List.getElem_cons_succ, List.getElem_cons_zero, List.setIfInBounds_toArray, List.set_cons_zero, List.set_cons_succ]
          refine wpAnyH_take (i := 6) (v := ?_) rfl (by kernel_rfl) (by kernel_rfl) (by kernel_rfl) (fun _ _ _ h => h) (Or.inl ⟨by rfl, ?_⟩) (by assumption) ?_
          rotate_left
          · intro w hSw; (try dsimp only at hSw); go_simp; try with_reducible rfl
          try simp only [Act.put, List.getElem_toArray, List.getElem_cons_succ, List.getElem_cons_zero, List.setIfInBounds_toArray, List.set_cons_zero, List.set_cons_succ]
          refine wpAnyH_take (i := 7) (v := ?_) rfl (by kernel_rfl) (by kernel_rfl) (by kernel_rfl) (fun _ _ _ h => h) (Or.inl ⟨by rfl, ?_⟩) (by assumption) ?_
          rotate_left
          · intro w hSw; (try dsimp only at hSw); go_simp; try with_reducible rfl
          try simp only [Act.put, List.getElem_toArray, List.getElem_cons_succ, List.getElem_cons_zero, List.setIfInBounds_toArray, List.set_cons_zero, List.set_cons_succ]
          refine wpAnyH_take (i := 8) (v := ?_) rfl (by kernel_rfl) (by kernel_rfl) (by kernel_rfl) (fun _ _ _ h => h) (Or.inl ⟨by rfl, ?_⟩) (by assumption) ?_
          rotate_left
          · intro w hSw; (try dsimp only at hSw); go_simp; try with_reducible rfl
          try simp only [Act.put, List.getElem_toArray, List.getElem_cons_succ, List.getElem_cons_zero, List.setIfInBounds_toArray, List.set_cons_zero, List.set_cons_succ]
          refine wpAnyH_ready (rs := [9]) (by kernel_rfl) (by simp) ?_
          refine AllReadyH.cons rfl (fun K hK => ?_) AllReadyH.nil
          go_simp
          refine (rin_any P Q G H ra rn rc z HU.out.1.1 HU.out.2.1 HU.out.2.2 HZ0.out _).mono ?_
          rintro e1 w3 ⟨rfl, hT2⟩
          rw [HIN2.out]
          go_wp2_with fail
          refine hK.out _ _ ?_ (fun hHeld => ?_)
          · exact R14.same (by with_reducible assumption) (by with_reducible assumption)
          clear hK K
          try simp only [Act.put, List.getElem_toArray, List.getElem_cons_succ, List.getElem_cons_zero, List.setIfInBounds_toArray, List.set_cons_zero, List.set_cons_succ]
          refine wpAnyH_take (i := 10) (v := ?_) rfl (by kernel_rfl) (by kernel_rfl) (by kernel_rfl) (fun _ _ _ h => h) (Or.inl ⟨by rfl, ?_⟩) (by assumption) ?_
          rotate_left
          · intro w hSw; (try dsimp only at hSw); go_simp; try with_reducible rfl
          try simp only [Act.put, List.getElem_toArray, List.getElem_cons_succ, List.getElem_cons_zero, List.setIfInBounds_toArray, List.set_cons_zero, List.set_cons_succ]
          refine wpAnyH_done (by kernel_rfl) ?_ _
          have HR3 := Lib.hid hHeld
          clear hHeld
          go_wp2_with fail
          go_roundw
          case rel => exact ⟨k + 1, by go_num, by omega, hup4, Lib.hid HR3.out.2.2⟩
          case measure => simp [intOf]; omega
        · obtain rfl : k = fn := by omega
          have hup5 : Hid (∀ i, i < j + 1 → InP P Q (ts.getD i 0) ∧ RowFit P Q (wide bs) (bs.getD i [])) := fun i hi => by
            by_cases e : i = j
            · subst e
              rw [HX.out, HROW.out, HN0.out]
              exact ⟨HINP.out, HFL.out, AllE.of (by rw [HFL.out]; exact hup2.out)⟩
            · exact hup.out i (by omega)
          go_wp2_with fail
          go_roundw
          case rel => exact ⟨j + 1, by go_num, by omega, hup5, HBq⟩
          case measure => simp [intOf]; omega
    · obtain rfl : j = bn := by omega
      have HV := Lib.hid (sizeS_yes (P := P) (Q := Q) (ts := ts) (bs := bs) ⟨by rw [HLT.out]; omega, by rw [HLT.out]; omega, by rw [HLT.out, HLB.out], AllE.of (by rw [HLT.out]; exact fun i hi => (hup.out i hi).1), by rw [HN0.out]; omega, by rw [HN0.out]; omega, by rw [HLB.out]; exact fun i hi => (hup.out i hi).2⟩)
      go_wp2_with fail
      go_ret
      exact ⟨by rw [HV.out, HN0.out]; rfl, hS⟩
end Go.Proofs.Ytlnkpbaibnfhhaa
