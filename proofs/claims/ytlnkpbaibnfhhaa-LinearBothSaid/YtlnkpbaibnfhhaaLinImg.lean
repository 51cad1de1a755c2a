/- linear.Image: what a claim's bases make of exponents. -/
import Derived.Test.YtlnkpbaibnfhhaaLinSize
import Derived.Test.YtlnkpbaibnfhhaaLinL
import Derived.Test.YtlnkpbaibnfhhaaW3
import Derived.Deep.RegionHeld3
set_option linter.unusedVariables false
set_option linter.unusedSimpArgs false
namespace Go.Proofs.Ytlnkpbaibnfhhaa
open Go.RowKit NT
abbrev R13 (W0 : World) (gx cx b1 o1 : Nat) (P Q G H : Int) (ra : Option Addr) (rn rc : Nat) (u v : Value) (e : Int) (w : World) : Prop :=
  w.cell? ⟨b1, o1, none⟩ = some (.int .u64 e) ∧ ClS W0 gx cx P Q G H ra rn rc u v w
theorem R13.same {W0 w w' : World} {gx cx b1 o1 : Nat} {P Q G H : Int} {ra : Option Addr} {rn rc : Nat} {u v : Value} {e : Int} (h : R13 W0 gx cx b1 o1 P Q G H ra rn rc u v e w) (hs : Same w w') : R13 W0 gx cx b1 o1 P Q G H ra rn rc u v e w' := ⟨same_cell hs h.1, h.2.same hs⟩
theorem R13.set {W0 w : World} {gx cx b1 o1 : Nat} {P Q G H : Int} {ra : Option Addr} {rn rc : Nat} {u v : Value} {e : Int} (h : R13 W0 gx cx b1 o1 P Q G H ra rn rc u v e w) {b o : Nat} (hb : b ≠ gx) (hc : b ≠ cx) (h1 : b ≠ b1) (hg : W0.heap.size ≤ b) (x : Value) : R13 W0 gx cx b1 o1 P Q G H ra rn rc u v e (w.setCell ⟨b, o, none⟩ x) := ⟨(World.cell?_setCell_far _ _ _ _ h1).trans h.1, h.2.set hb hc hg x⟩
/-- a pair of results: a list and whether there is one -/
def ImgRet (w : World) (z : Ending) (w' : World) (l : List Int) (ok : Bool) : Prop := ∃ a n cap, z = .returned (.tuple #[.slice a n cap, .bool ok]) ∧ IntsAt w' a n l ∧ Same w w'
set_option maxRecDepth 100000 in
set_option maxHeartbeats 3200000 in
theorem image_any (P Q G H : Int) (ra : Option Addr) (rn rc : Nat) (ta ba wa : Option Addr) (tn tc bn bc wn wc : Nat) (ts : List Int) (bs : List (List Int)) (ws : List Int) (hP : U64 P) (hQ : U64 Q) (hgrp : GrpP P Q) (w : World) (ht : IntsAt w ta tn ts) (hb : MatAt w ba bn bs) (hw : IntsAt w wa wn ws) :
    Calls Try.prog 13 #[.agg #[.int .u64 P, .int .u64 Q, .int .u64 G, .int .u64 H, .slice ra rn rc], .agg #[.slice ta tn tc, .slice ba bn bc], .slice wa wn wc] w fun z w' => ImgRet w z w' (imgL P Q ts bs ws) (imgB P Q ts bs ws) := by
  obtain ⟨W, gx, cx, eW, eg, ec, hB⟩ := par_claim w P Q G H ra rn rc (.slice ta tn tc) (.slice ba bn bc)
  have EW := Lib.hid eW
  have EG := Lib.hid eg
  have EC := Lib.hid ec
  have HU := Lib.hid (And.intro hP hQ)
  have HGRP := Lib.hid hgrp
  have HT := Lib.hid ht
  have HM := Lib.hid hb
  have HW := Lib.hid hw
  have HB := Lib.hid hB
  have HLT := Lib.hid ht.len
  have HLB := Lib.hid hb.len
  have HLW := Lib.hid hw.len
  have hst := ht.small
  have hsb := hb.small
  have hsw := hw.small
  clear eW eg ec hP hQ hgrp ht hb hw hB
  obtain ⟨c0, c1, b0, b1, b2, b3, b4, hS⟩ := HB.out
  go_enter Try.func13, Try.ntmps13
  go_upto_region 1 with fail
  rw [EW.out, EG.out, EC.out]
  go_wp2_with fail
  refine (size_any P Q G H ra rn rc ta ba tn tc bn bc ts bs HU.out.1 HU.out.2 _ (HT.out.same hS) (HM.out.same hS)).mono ?_
  rintro e1 w1 ⟨rfl, hT⟩
  obtain ⟨n, en⟩ : ∃ n, sizeS P Q ts bs = n := ⟨_, rfl⟩
  have HN := Lib.hid en
  have hn64 : n ≤ 64 := by rw [← en]; exact sizeS_le
  rw [en]
  clear en
  replace HB := Lib.hid (ClS.same HB.out hT)
  clear c0 c1 b0 b1 b2 b3 b4 hS hT
  obtain ⟨c0, c1, b0, b1, b2, b3, b4, hS⟩ := HB.out
  by_cases hok : ImgOk P Q ts bs ws
  case neg =>
    have HV := Lib.hid (And.intro (imgB_no hok) (imgL_no hok))
    by_cases hn0 : n = 0
    · subst hn0
      go_wp2_with fail
      go_ret2
      exact ⟨_, _, _, by rw [HV.out.1]; rfl, by rw [HV.out.2]; exact ints_nil _, hS⟩
    · have d0 : ((n : Int) == 0) = false := by simp; omega
      have d1 : ((wn : Int) != n) = true := by
        have : wn ≠ n := fun e => hok ⟨sizeS_pos (by rw [HN.out]; exact hn0), by rw [HLW.out, ← sizeS_yes (sizeS_pos (by rw [HN.out]; exact hn0)), HN.out]; exact e⟩
        simp; omega
      clear hok
      go_wp2_with fail
      go_ret2
      exact ⟨_, _, _, by rw [HV.out.1]; rfl, by rw [HV.out.2]; exact ints_nil _, hS⟩
  have HOK := Lib.hid hok
  have hnw : n = wide bs := by rw [← HN.out, sizeS_yes hok.1]
  have hn1 : 1 ≤ n := by rw [hnw]; exact hok.1.n0
  have hwn : wn = n := by rw [← HLW.out, hok.2, hnw]
  have hbn : 1 ≤ bn ∧ bn ≤ 64 := by rw [← HLB.out, hok.1.b]; exact ⟨hok.1.t0, hok.1.t64⟩
  have HNW0 := Lib.hid hnw
  subst hwn
  clear hok hnw
  have d0 : ((wn : Int) == 0) = false := by simp; omega
  have d1 : ((wn : Int) != wn) = false := by simp
  obtain ⟨i0, hi, hz0, hz1, hz2⟩ := info_parts info_u64
  go_wp2_with (refine wpList_make_full _ rfl _ _ 26 rfl w1.heap.size 22 i0 (.int .u64 0) 1 Try.underlying26 hi hz0 hz1 _ _ _ _ bn rfl rfl rfl rfl (by rw [hz2]; omega) (by unfold maxLen; omega) (Nat.le_refl _) ?_; intro w2 hown hgrow; have HB2 := Lib.hid (ClS.same HB.out (same_made hgrow)); have HL0 := Lib.hid (made_ls hown); have HG := Lib.hid (same_made hgrow); clear hown hgrow c0 c1 b0 b1 b2 b3 b4 hS; obtain ⟨c0, c1, b0, b1, b2, b3, b4, hS⟩ := HB2.out)
  have hw1g := World.new_ne w1 ⟨gx, 0, none⟩ HB.out.2.2.1
  have hw1c := World.new_ne w1 ⟨cx, 0, none⟩ HB.out.1
  have hw1s := HB.out.2.2.base.size
  obtain ⟨lx, elx⟩ : ∃ lx, w1.heap.size = lx := ⟨_, rfl⟩
  rw [elx] at HL0 hw1g hw1c hw1s ⊢
  have HNE := Lib.hid (And.intro hw1g (And.intro hw1c hw1s))
  clear elx hw1g hw1c hw1s
  go_loopw [32] (fun s32 wr => ∃ (j : Nat) (ls : List Int), s32 = .int .i64 j ∧ j ≤ bn ∧ LsAt wr lx ls ∧ ls.length = bn ∧ Hid (∀ i, i < j → ls.getD i 0 = imgRow P Q (bs.getD i []) ws) ∧ Hid (ClS w gx cx P Q G H ra rn rc (.slice ta tn tc) (.slice ba bn bc) wr)) (fun s32 _ => bn - (intOf s32).toNat)
  case atStart => exact ⟨0, List.replicate bn 0, rfl, by omega, HL0.out, by simp, fun i hi => by omega, HB2⟩
  case round =>
    obtain ⟨j, ls, rfl, hj, hL, hls, hup, HBr⟩ := hrel
    clear c0 c1 b0 b1 b2 b3 b4 hS d0 d1
    obtain ⟨c0, c1, b0, b1, b2, b3, b4, hS⟩ := HBr.out
    by_cases hlt : j < bn
    · obtain ⟨mb, mo, hma, hmr⟩ := HM.out.rows (by omega)
      subst hma
      obtain ⟨fa, fn, fc, hcw, hf⟩ := hmr j hlt
      have hc := same_cell hS hcw
      have hfn : fn = wn := by rw [← hf.len, HNW0.out]; exact (HOK.out.1.rows j (by rw [HLB.out]; exact hlt)).1
      subst hfn
      have HF := Lib.hid hf
      have HFL := Lib.hid hf.len
      obtain ⟨row, hrow⟩ : ∃ row, bs.getD j [] = row := ⟨_, rfl⟩
      rw [hrow] at HF HFL
      have HROW := Lib.hid hrow
      obtain ⟨z0, z1⟩ := hL.cells j (by omega)
      have hj0 : (0 : Int) ≤ j := by omega
      have hj1 : (j : Int) < bn := by omega
      have hL1 := Lib.hid (hL.set (j := j) (by omega) 1)
      have HC1 := Lib.hid (ClS.set HBr.out HNE.out.1 HNE.out.2.1 HNE.out.2.2 (.int .u64 1) (o := j))
      clear hmr hf hrow hcw
      go_wp2_with fail
      go_loopw [42] (fun s42 wq => ∃ (k : Nat) (l2 : List Int), s42 = .int .i64 k ∧ k ≤ fn ∧ LsAt wq lx l2 ∧ l2.length = bn ∧ Hid (l2.getD j 0 = imgUp P Q row ws k ∧ ∀ i, i < j → l2.getD i 0 = imgRow P Q (bs.getD i []) ws) ∧ Hid (ClS w gx cx P Q G H ra rn rc (.slice ta tn tc) (.slice (some ⟨mb, mo, none⟩) bn bc) wq)) (fun s42 _ => fn - (intOf s42).toNat)
      case atStart => exact ⟨0, ls.set j 1, rfl, by omega, hL1.out, by rw [List.length_set]; exact hls, Lib.hid ⟨getD_set_same (by omega) _, fun i hi => by rw [getD_set_ne (by omega)]; exact hup.out i hi⟩, HC1⟩
      case round =>
        clear z0 z1 hc hL c0 c1 b0 b1 b2 b3 b4 hS HBr hL1 HC1 hls hup
        obtain ⟨k, l2, rfl, hk, hL, hls, hup, HBq⟩ := hrel
        obtain ⟨c0, c1, b0, b1, b2, b3, b4, hS⟩ := HBq.out
        by_cases hlt2 : k < fn
        · obtain ⟨eb, eo, hea, hec⟩ := HF.out.cells (by omega)
          subst hea
          have hce := same_cell hS (hec k hlt2)
          obtain ⟨b, eb0⟩ : ∃ b, row.getD k 0 = b := ⟨_, rfl⟩
          rw [eb0] at hce
          have HBB := Lib.hid eb0
          have hb0 : 0 ≤ b := by rw [← eb0]; exact (HF.out.bd k).1
          obtain ⟨wb, wo, hwa, hwc⟩ := HW.out.cells (by omega)
          subst hwa
          have hcew := hwc k hlt2
          obtain ⟨e, ee⟩ : ∃ e, ws.getD k 0 = e := ⟨_, rfl⟩
          rw [ee] at hcew
          have HEE := Lib.hid ee
          have HBE := Lib.hid (show 0 ≤ b ∧ U64 e from ⟨hb0, by rw [← ee]; exact HW.out.bd k⟩)
          have HCEW := Lib.hid hcew
          clear hec eb0 hwc ee hcew hb0
          by_cases hb1 : b = 1
          · have hv : imgUp P Q row ws (k + 1) = imgUp P Q row ws k := imgUp_skip HGRP.out (by rw [HBB.out]; exact hb1) (by rw [HEE.out]; exact HBE.out.2.1)
            have HVV := Lib.hid hv
            subst hb1
            clear hv
            go_wp2_with fail
            go_roundw
            case rel => exact ⟨k + 1, l2, by go_num, by omega, hL, hls, Lib.hid ⟨by rw [HVV.out]; exact hup.out.1, hup.out.2⟩, HBq⟩
            case measure => simp [intOf]; omega
          · have db : (b != 1) = true := by rw [bne_iff_ne]; exact hb1
            obtain ⟨v, ev⟩ : ∃ v, imgUp P Q row ws k = v := ⟨_, rfl⟩
            have HV := Lib.hid (show l2.getD j 0 = v ∧ U64 v from ⟨by rw [hup.out.1, ev], by rw [← ev]; exact imgUp_u _ _ _ _ _⟩)
            obtain ⟨nv, env⟩ : ∃ nv, imgUp P Q row ws (k + 1) = nv := ⟨_, rfl⟩
            have HPM := Lib.hid (show prodI P [v, expI Q P b e] = nv by rw [prod_mul HGRP.out, ← env, imgUp, ev, HBB.out, HEE.out])
            have HNV := Lib.hid env
            have HUP := Lib.hid hup.out.2
            have HNW := Lib.hid (show wb < lx by have := World.block_lt_of_cell? w _ HCEW.out; have := HNE.out.2.2; simp at *; omega)
            have hk0 : (0 : Int) ≤ k := by omega
            have hk1 : (k : Int) < fn := by omega
            clear hb1 ev env hup
            go_upto_region 13 with fail
            have HR0 := Lib.hid (show R13 w gx cx wb (wo + k) P Q G H ra rn rc (.slice ta tn tc) (.slice (some ⟨mb, mo, none⟩) bn bc) e wr.drew from R13.same ⟨same_cell hS HCEW.out, HBq.out⟩ (drew_same _))
            replace hL := hL.same (drew_same wr)
            clear c0 c1 b0 b1 b2 b3 b4 hS hce
            refine wp_region_held_drew (S := fun w' => R13 w gx cx wb (wo + k) P Q G H ra rn rc (.slice ta tn tc) (.slice (some ⟨mb, mo, none⟩) bn bc) e w') (by kernel_rfl) HR0.out (fun hHeld => ?_)
            obtain ⟨Wd, eWd⟩ : ∃ Wd, wr.drew = Wd := ⟨_, rfl⟩
            rw [eWd] at hHeld hL ⊢
            clear eWd HR0
            refine wpAnyH_take (i := 0) (v := ?_) rfl (by kernel_rfl) (by kernel_rfl) (by kernel_rfl) (fun _ _ _ h => h) (Or.inl ⟨by rfl, ?_⟩) (by assumption) ?_
            rotate_left
            · intro w hSw; (try dsimp only at hSw); go_simp; try with_reducible rfl
            try simp only [Act.put, List.getElem_toArray, List.getElem_cons_succ, List.getElem_cons_zero, List.setIfInBounds_toArray, List.set_cons_zero, List.set_cons_succ]
            refine wpAnyH_take (i := 1) (v := ?_) rfl (by kernel_rfl) (by kernel_rfl) (by kernel_rfl) (fun _ _ _ h => h) (Or.inl ⟨by rfl, ?_⟩) (by assumption) ?_
            rotate_left
            · intro w hSw; (try dsimp only at hSw); go_simp; try with_reducible rfl
            try simp only [Act.put, List.getElem_toArray, List.getElem_cons_succ, List.getElem_cons_zero, List.setIfInBounds_toArray, List.set_cons_zero, List.set_cons_succ]
            refine wpAnyH_take (i := 2) (v := ?_) rfl (by kernel_rfl) (by kernel_rfl) (by kernel_rfl) (fun _ _ _ h => h) (Or.inl ⟨by rfl, ?_⟩) (by assumption) ?_
            rotate_left
            · intro w hSw; (try dsimp only at hSw); go_simp; try with_reducible rfl
            try simp only [Act.put, List.getElem_toArray, List.getElem_cons_succ, List.getElem_cons_zero, List.setIfInBounds_toArray, List.set_cons_zero, List.set_cons_succ]
            refine wpAnyH_take (i := 3) (v := ?_) rfl (by kernel_rfl) (by kernel_rfl) (by kernel_rfl) (fun _ _ _ h => h) (Or.inl ⟨by rfl, ?_⟩) (by assumption) ?_
            rotate_left
            · intro w hSw; (try dsimp only at hSw); go_simp; try with_reducible rfl
            try simp only [Act.put, List.getElem_toArray, List.getElem_cons_succ, List.getElem_cons_zero, List.setIfInBounds_toArray, List.set_cons_zero, List.set_cons_succ]
            refine wpAnyH_take (i := 4) (v := ?_) rfl (by kernel_rfl) (by kernel_rfl) (by kernel_rfl) (fun _ _ _ h => h) (Or.inl ⟨by rfl, ?_⟩) (by assumption) ?_
            rotate_left
            · intro w hSw; (try dsimp only at hSw); go_simp; try with_reducible rfl
            try simp only [Act.put, List.getElem_toArray, List.getElem_cons_succ, List.getElem_cons_zero, List.setIfInBounds_toArray, List.set_cons_zero, List.set_cons_succ]
            refine wpAnyH_take (i := 5) (v := ?_) rfl (by kernel_rfl) (by kernel_rfl) (by kernel_rfl) (fun _ _ _ h => h) (Or.inl ⟨by rfl, ?_⟩) (by assumption) ?_
            rotate_left
            · intro w hSw; (try dsimp only at hSw); go_simp; try with_reducible rfl
            try simp only [Act.put, List.getElem_toArray, List.getElem_cons_succ, List.getElem_cons_zero, List.setIfInBounds_toArray, List.set_cons_zero, List.set_cons_succ]
            refine wpAnyH_take (i := 7) (v := ?_) rfl (by kernel_rfl) (by kernel_rfl) (by kernel_rfl) (fun _ _ _ h => h) (Or.inl ⟨by rfl, ?_⟩) (by assumption) ?_
            rotate_left
            · intro w hSw; (try dsimp only at hSw); go_simp; try with_reducible rfl
            try simp only [Act.put, List.getElem_toArray, List.getElem_cons_succ, List.getElem_cons_zero, List.setIfInBounds_toArray, List.set_cons_zero, List.set_cons_succ]
            refine wpAnyH_take (i := 8) (v := ?_) rfl (by kernel_rfl) (by kernel_rfl) (by kernel_rfl) (fun _ _ _ h => h) (Or.inl ⟨by rfl, ?_⟩) (by assumption) ?_
            rotate_left
            · intro w hSw; (try dsimp only at hSw); go_simp; try with_reducible rfl
            try simp only [Act.put, List.getElem_toArray, List.getElem_cons_succ, List.getElem_cons_zero, List.setIfInBounds_toArray, List.set_cons_zero, List.set_cons_succ]
            refine wpAnyH_take (i := 9) (v := ?_) rfl (by kernel_rfl) (by kernel_rfl) (by kernel_rfl) (fun _ _ _ h => h) (Or.inl ⟨by rfl, ?_⟩) (by assumption) ?_
            rotate_left
            · intro w hSw; (try dsimp only at hSw); go_simp; try with_reducible rfl
            try simp only [Act.put, List.getElem_toArray, List.getElem_cons_succ, List.getElem_cons_zero, List.setIfInBounds_toArray, List.set_cons_zero, List.set_cons_succ]
            refine wpAnyH_take (i := 10) (v := ?_) rfl (by kernel_rfl) (by kernel_rfl) (by kernel_rfl) (fun _ _ _ h => h) (Or.inl ⟨by rfl, ?_⟩) (by assumption) ?_
            rotate_left
            · intro w hSw; (try dsimp only at hSw); go_simp; try with_reducible rfl
            try simp only [Act.put, List.getElem_toArray, List.getElem_cons_succ, List.getElem_cons_zero, List.setIfInBounds_toArray, List.set_cons_zero, List.set_cons_succ]
            refine wpAnyH_take (i := 11) (v := ?_) rfl (by kernel_rfl) (by kernel_rfl) (by kernel_rfl) (fun _ _ _ h => h) (Or.inl ⟨by rfl, ?_⟩) (by assumption) ?_
            rotate_left
            · intro w hSw; (try dsimp only at hSw); go_simp; try with_reducible rfl
            try simp only [Act.put, List.getElem_toArray, List.getElem_cons_succ, List.getElem_cons_zero, List.setIfInBounds_toArray, List.set_cons_zero, List.set_cons_succ]
            refine wpAnyH_take (i := 12) (v := ?_) rfl (by kernel_rfl) (by kernel_rfl) (by kernel_rfl) (fun _ _ _ h => h) (Or.inl ⟨by rfl, ?_⟩) (by assumption) ?_
            rotate_left
            · intro w hSw; (try dsimp only at hSw); go_simp; try with_reducible rfl
            try simp only [Act.put, List.getElem_toArray, List.getElem_cons_succ, List.getElem_cons_zero, List.setIfInBounds_toArray, List.set_cons_zero, List.set_cons_succ]
            refine wpAnyH_ready (rs := [6, 13]) (by kernel_rfl) (by simp) ?_
            refine AllReadyH.cons rfl (fun K hK => ?_) (AllReadyH.cons rfl (fun K hK => ?_) AllReadyH.nil)
            · obtain ⟨z0, z1⟩ := hL.cells j (by omega)
              rw [HV.out.1] at z0
              go_simp
              clear z0 z1
              refine hK.out _ _ ?_ (fun hHeld => ?_)
              · exact hHeld
              clear hK K
              try simp only [Act.put, List.getElem_toArray, List.getElem_cons_succ, List.getElem_cons_zero, List.setIfInBounds_toArray, List.set_cons_zero, List.set_cons_succ]
              refine wpAnyH_ready (rs := [13]) (by kernel_rfl) (by simp) ?_
              refine AllReadyH.cons rfl (fun K hK => ?_) AllReadyH.nil
              go_simp
              refine (exp_any P Q G H ra rn rc b e HU.out.1.1 HU.out.2.1 HU.out.2.2 HBE.out.1 HBE.out.2.1 HBE.out.2.2 _).mono ?_
              rintro e1 w5 ⟨rfl, hT5⟩
              replace hL := hL.same hT5
              go_wp2_with fail
              refine hK.out _ _ ?_ (fun hHeld => ?_)
              · exact R13.same (by with_reducible assumption) (by with_reducible assumption)
              clear hK K
              try simp only [Act.put, List.getElem_toArray, List.getElem_cons_succ, List.getElem_cons_zero, List.setIfInBounds_toArray, List.set_cons_zero, List.set_cons_succ]
              refine wpAnyH_ready (rs := [14]) (by kernel_rfl) (by simp) ?_
              refine AllReadyH.cons rfl (fun K hK => ?_) AllReadyH.nil
              go_simp
              replace hL := hL.same ((Same.refl _).alloc (.cells #[.int .u64 v, .int .u64 (expI Q P b e)] 22))
              refine hK.out _ _ ?_ (fun hHeld => ?_)
              · exact R13.same (by with_reducible assumption) ((Same.refl _).alloc _)
              clear hK K
              try simp only [Act.put, List.getElem_toArray, List.getElem_cons_succ, List.getElem_cons_zero, List.setIfInBounds_toArray, List.set_cons_zero, List.set_cons_succ]
              refine wpAnyH_ready (rs := [15]) (by kernel_rfl) (by simp) ?_
              refine AllReadyH.cons rfl (fun K hK => ?_) AllReadyH.nil
              go_simp
              refine (prod_any P Q G H ra rn rc _ 2 2 [v, expI Q P b e] HU.out.1.1 _ (ints_two _ _ _ _ HV.out.2 (expI_u _ _ _ _))).mono ?_
              rintro e1 w6 ⟨rfl, hT6⟩
              rw [HPM.out]
              replace hL := hL.same hT6
              go_wp2_with fail
              refine hK.out _ _ ?_ (fun hHeld => ?_)
              · exact R13.same (by with_reducible assumption) (by with_reducible assumption)
              clear hK K
              try simp only [Act.put, List.getElem_toArray, List.getElem_cons_succ, List.getElem_cons_zero, List.setIfInBounds_toArray, List.set_cons_zero, List.set_cons_succ]
              refine wpAnyH_take (i := 16) (v := ?_) rfl (by kernel_rfl) (by kernel_rfl) (by kernel_rfl) (fun _ _ _ h => h) (Or.inl ⟨by rfl, ?_⟩) (by assumption) ?_
              rotate_left
              · intro w hSw; (try dsimp only at hSw); go_simp; try with_reducible rfl
              try simp only [Act.put, List.getElem_toArray, List.getElem_cons_succ, List.getElem_cons_zero, List.setIfInBounds_toArray, List.set_cons_zero, List.set_cons_succ]
              refine wpAnyH_ready (rs := [17]) (by kernel_rfl) (by simp) ?_
              refine AllReadyH.cons rfl (fun K hK => ?_) AllReadyH.nil
              obtain ⟨z0, z1⟩ := hL.cells j (by omega)
              have hL2 := hL.set (j := j) (by omega) nv
              go_simp
              clear z0 z1
              refine hK.out _ _ ?_ (fun hHeld => ?_)
              · exact R13.set hHeld HNE.out.1 HNE.out.2.1 (Nat.ne_of_gt HNW.out) HNE.out.2.2 _
              clear hK K
              try simp only [Act.put, List.getElem_toArray, List.getElem_cons_succ, List.getElem_cons_zero, List.setIfInBounds_toArray, List.set_cons_zero, List.set_cons_succ]
              refine wpAnyH_done (by kernel_rfl) ?_ _
              have HCL := Lib.hid hHeld.2
              clear hHeld hL
              go_wp2_with fail
              go_roundw
              case rel => exact ⟨k + 1, _, by go_num, by omega, hL2, by rw [List.length_set]; exact hls, Lib.hid ⟨by rw [getD_set_same (by omega)]; exact HNV.out.symm, fun i hi => by rw [getD_set_ne (by omega)]; exact HUP.out i hi⟩, HCL⟩
              case measure => simp [intOf]; omega
            · go_simp
              refine (exp_any P Q G H ra rn rc b e HU.out.1.1 HU.out.2.1 HU.out.2.2 HBE.out.1 HBE.out.2.1 HBE.out.2.2 _).mono ?_
              rintro e1 w5 ⟨rfl, hT5⟩
              replace hL := hL.same hT5
              go_wp2_with fail
              refine hK.out _ _ ?_ (fun hHeld => ?_)
              · exact R13.same (by with_reducible assumption) (by with_reducible assumption)
              clear hK K
              try simp only [Act.put, List.getElem_toArray, List.getElem_cons_succ, List.getElem_cons_zero, List.setIfInBounds_toArray, List.set_cons_zero, List.set_cons_succ]
              refine wpAnyH_ready (rs := [6]) (by kernel_rfl) (by simp) ?_
              refine AllReadyH.cons rfl (fun K hK => ?_) AllReadyH.nil
              obtain ⟨z0, z1⟩ := hL.cells j (by omega)
              rw [HV.out.1] at z0
              go_simp
              clear z0 z1
              refine hK.out _ _ ?_ (fun hHeld => ?_)
              · exact hHeld
              clear hK K
              try simp only [Act.put, List.getElem_toArray, List.getElem_cons_succ, List.getElem_cons_zero, List.setIfInBounds_toArray, List.set_cons_zero, List.set_cons_succ]
              refine wpAnyH_ready (rs := [14]) (by kernel_rfl) (by simp) ?_
              refine AllReadyH.cons rfl (fun K hK => ?_) AllReadyH.nil
              go_simp
              replace hL := hL.same ((Same.refl _).alloc (.cells #[.int .u64 v, .int .u64 (expI Q P b e)] 22))
              refine hK.out _ _ ?_ (fun hHeld => ?_)
              · exact R13.same (by with_reducible assumption) ((Same.refl _).alloc _)
              clear hK K
              try simp only [Act.put, List.getElem_toArray, List.getElem_cons_succ, List.getElem_cons_zero, List.setIfInBounds_toArray, List.set_cons_zero, List.set_cons_succ]
              refine wpAnyH_ready (rs := [15]) (by kernel_rfl) (by simp) ?_
              refine AllReadyH.cons rfl (fun K hK => ?_) AllReadyH.nil
              go_simp
              refine (prod_any P Q G H ra rn rc _ 2 2 [v, expI Q P b e] HU.out.1.1 _ (ints_two _ _ _ _ HV.out.2 (expI_u _ _ _ _))).mono ?_
              rintro e1 w6 ⟨rfl, hT6⟩
              rw [HPM.out]
              replace hL := hL.same hT6
              go_wp2_with fail
              refine hK.out _ _ ?_ (fun hHeld => ?_)
              · exact R13.same (by with_reducible assumption) (by with_reducible assumption)
              clear hK K
              try simp only [Act.put, List.getElem_toArray, List.getElem_cons_succ, List.getElem_cons_zero, List.setIfInBounds_toArray, List.set_cons_zero, List.set_cons_succ]
              refine wpAnyH_take (i := 16) (v := ?_) rfl (by kernel_rfl) (by kernel_rfl) (by kernel_rfl) (fun _ _ _ h => h) (Or.inl ⟨by rfl, ?_⟩) (by assumption) ?_
              rotate_left
              · intro w hSw; (try dsimp only at hSw); go_simp; try with_reducible rfl
              try simp only [Act.put, List.getElem_toArray, List.getElem_cons_succ, List.getElem_cons_zero, List.setIfInBounds_toArray, List.set_cons_zero, List.set_cons_succ]
              refine wpAnyH_ready (rs := [17]) (by kernel_rfl) (by simp) ?_
              refine AllReadyH.cons rfl (fun K hK => ?_) AllReadyH.nil
              obtain ⟨z0, z1⟩ := hL.cells j (by omega)
              have hL2 := hL.set (j := j) (by omega) nv
              go_simp
              clear z0 z1
              refine hK.out _ _ ?_ (fun hHeld => ?_)
              · exact R13.set hHeld HNE.out.1 HNE.out.2.1 (Nat.ne_of_gt HNW.out) HNE.out.2.2 _
              clear hK K
              try simp only [Act.put, List.getElem_toArray, List.getElem_cons_succ, List.getElem_cons_zero, List.setIfInBounds_toArray, List.set_cons_zero, List.set_cons_succ]
              refine wpAnyH_done (by kernel_rfl) ?_ _
              have HCL := Lib.hid hHeld.2
              clear hHeld hL
              go_wp2_with fail
              go_roundw
              case rel => exact ⟨k + 1, _, by go_num, by omega, hL2, by rw [List.length_set]; exact hls, Lib.hid ⟨by rw [getD_set_same (by omega)]; exact HNV.out.symm, fun i hi => by rw [getD_set_ne (by omega)]; exact HUP.out i hi⟩, HCL⟩
              case measure => simp [intOf]; omega
        · obtain rfl : k = fn := by omega
          have hup5 : Hid (∀ i, i < j + 1 → l2.getD i 0 = imgRow P Q (bs.getD i []) ws) := fun i hi => by
            by_cases e : i = j
            · subst e; rw [HROW.out, hup.out.1]; unfold imgRow; rw [HFL.out]
            · exact hup.out.2 i (by omega)
          clear hup
          go_wp2_with fail
          go_roundw
          case rel => exact ⟨j + 1, l2, by go_num, by omega, hL, hls, hup5, HBq⟩
          case measure => simp [intOf]; omega
    · obtain rfl : j = bn := by omega
      have HL := Lib.hid (show ls = imageS P Q bs ws from list_ext (by rw [imageS_len, HLB.out]; exact hls) (fun i hi => by rw [imageS_at (by rw [HLB.out]; omega)]; exact hup.out i (by omega)))
      have HI := Lib.hid (hL.ints (by omega) (by rw [HL.out]; exact imageS_u))
      have HV := Lib.hid (And.intro (imgB_yes HOK.out) (imgL_yes HOK.out))
      clear hup
      go_wp2_with fail
      go_ret2
      exact ⟨some ⟨lx, 0, none⟩, _, _, by rw [HV.out.1]; rfl, by rw [HV.out.2, ← HL.out, ← hls]; exact HI.out, hS⟩
end Go.Proofs.Ytlnkpbaibnfhhaa
