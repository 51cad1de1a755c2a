/- The document's Image. -/
import Derived.Test.YtlnkpbaibnfhhaaLinRSize
import Derived.Test.YtlnkpbaibnfhhaaLinImg
import Derived.Test.YtlnkpbaibnfhhaaW4
import Derived.Test.YtlnkpbaibnfhhaaW2
import Derived.Deep.RegionHeld3
set_option linter.unusedVariables false
set_option linter.unusedSimpArgs false
namespace Go.Proofs.Ytlnkpbaibnfhhaa
open Go.RowKit NT
abbrev RI12 (W0 : World) (gx cx b1 o1 b2 o2 b3 o3 : Nat) (P Q G H : Int) (ra : Option Addr) (rn rc : Nat) (u v : Value) (row : Value) (b e : Int) (w : World) : Prop :=
  w.cell? ⟨b1, o1, none⟩ = some row ∧ w.cell? ⟨b2, o2, none⟩ = some (.int .u64 b) ∧ w.cell? ⟨b3, o3, none⟩ = some (.int .u64 e) ∧ ClS W0 gx cx P Q G H ra rn rc u v w
theorem RI12.same {W0 w w' : World} {gx cx b1 o1 b2 o2 b3 o3 : Nat} {P Q G H : Int} {ra : Option Addr} {rn rc : Nat} {u v : Value} {row : Value} {b e : Int} (h : RI12 W0 gx cx b1 o1 b2 o2 b3 o3 P Q G H ra rn rc u v row b e w) (hs : Same w w') : RI12 W0 gx cx b1 o1 b2 o2 b3 o3 P Q G H ra rn rc u v row b e w' := ⟨same_cell hs h.1, same_cell hs h.2.1, same_cell hs h.2.2.1, h.2.2.2.same hs⟩
theorem imageS_snoc {P Q : Int} {bs : List (List Int)} {ws : List Int} {j : Nat} (h : j < bs.length) : imageS P Q (bs.take (j + 1)) ws = imageS P Q (bs.take j) ws ++ [imgRow P Q (bs.getD j []) ws] := by
  unfold imageS
  rw [List.take_succ_eq_append_getElem h, List.map_append]
  simp [List.getD, h]
set_option maxRecDepth 100000 in
set_option maxHeartbeats 3200000 in
theorem rimage_any (P Q G H : Int) (ra : Option Addr) (rn rc : Nat) (ta ba wa : Option Addr) (tn tc bn bc wn wc : Nat) (ts : List Int) (bs : List (List Int)) (ws : List Int) (hP : U64 P) (hQ : U64 Q) (w : World) (ht : IntsAt w ta tn ts) (hb : MatAt w ba bn bs) (hw : IntsAt w wa wn ws) :
    Calls Try.prog 14 #[.agg #[.int .u64 P, .int .u64 Q, .int .u64 G, .int .u64 H, .slice ra rn rc], .agg #[.slice ta tn tc, .slice ba bn bc], .slice wa wn wc] w fun z w' => ImgRet w z w' (imgL P Q ts bs ws) (imgB P Q ts bs ws) := by
  obtain ⟨W, gx, cx, eW, eg, ec, hB⟩ := par_claim w P Q G H ra rn rc (.slice ta tn tc) (.slice ba bn bc)
  have EW := Lib.hid eW
  have EG := Lib.hid eg
  have EC := Lib.hid ec
  have HU := Lib.hid (And.intro hP hQ)
  have HT := Lib.hid ht
  have HM := Lib.hid hb
  have HW := Lib.hid hw
  have HB := Lib.hid hB
  have HLT := Lib.hid ht.len
  have HLB := Lib.hid hb.len
  have HLW := Lib.hid hw.len
  have hst := ht.small
  have hsb := hb.small
  have hsw := hw.small
  clear eW eg ec hP hQ ht hb hw hB
  obtain ⟨c0, c1, b0, b1, b2, b3, b4, hS⟩ := HB.out
  go_enter Try.func14, Try.ntmps14
  go_upto_region 1 with fail
  rw [EW.out, EG.out, EC.out]
  go_wp2_with fail
  refine (rsize_any P Q G H ra rn rc ta ba tn tc bn bc ts bs HU.out.1 HU.out.2 _ (HT.out.same hS) (HM.out.same hS)).mono ?_
  rintro e1 w1 ⟨rfl, hT⟩
  obtain ⟨n, en⟩ : ∃ n, sizeS P Q ts bs = n := ⟨_, rfl⟩
  have HN := Lib.hid en
  have hn64 : n ≤ 64 := by rw [← en]; exact sizeS_le
  rw [en]
  clear en
  replace HB := Lib.hid (ClS.same HB.out hT)
  clear c0 c1 b0 b1 b2 b3 b4 hS hT
  obtain ⟨c0, c1, b0, b1, b2, b3, b4, hS⟩ := HB.out
  by_cases hok : ImgOk P Q ts bs ws
  case neg =>
    have HV := Lib.hid (And.intro (imgB_no hok) (imgL_no hok))
    by_cases hn0 : n = 0
    · subst hn0
      go_wp2_with fail
      go_ret2
      exact ⟨_, _, _, by rw [HV.out.1]; rfl, by rw [HV.out.2]; exact ints_nil _, hS⟩
    · have d0 : ((n : Int) == 0) = false := by simp; omega
      have d1 : ((wn : Int) != n) = true := by
        have : wn ≠ n := fun e => hok ⟨sizeS_pos (by rw [HN.out]; exact hn0), by rw [HLW.out, ← sizeS_yes (sizeS_pos (by rw [HN.out]; exact hn0)), HN.out]; exact e⟩
        simp; omega
      clear hok
      go_wp2_with fail
      go_ret2
      exact ⟨_, _, _, by rw [HV.out.1]; rfl, by rw [HV.out.2]; exact ints_nil _, hS⟩
  have HOK := Lib.hid hok
  have hnw : n = wide bs := by rw [← HN.out, sizeS_yes hok.1]
  have hn1 : 1 ≤ n := by rw [hnw]; exact hok.1.n0
  have hwn : wn = n := by rw [← HLW.out, hok.2, hnw]
  have hbn : 1 ≤ bn ∧ bn ≤ 64 := by rw [← HLB.out, hok.1.b]; exact ⟨hok.1.t0, hok.1.t64⟩
  have HNW0 := Lib.hid hnw
  subst hwn
  clear hok hnw
  have d0 : ((wn : Int) == 0) = false := by simp; omega
  have d1 : ((wn : Int) != wn) = false := by simp
  obtain ⟨i0, hi, hz0, hz1, hz2⟩ := info_parts info_u64
  have HTN := Lib.hid (show tn = bn by rw [← HLT.out, ← HLB.out]; exact HOK.out.1.b.symm)
  go_wp2_with fail
  go_loopw [9, 10] (fun s9 s10 wr => ∃ j : Nat, s10 = .int .i64 j ∧ j ≤ tn ∧ OwnI wr w1.heap.size s9 (imageS P Q (bs.take j) ws) ∧ Same w1 wr) (fun _ s10 _ => tn - (intOf s10).toNat)
  case atStart => exact ⟨0, rfl, by omega, OwnI.nil _ _, Same.refl _⟩
  case round =>
    obtain ⟨j, rfl, hj, hown, hD⟩ := hrel
    have HBr := Lib.hid (ClS.same HB.out hD)
    clear c0 c1 b0 b1 b2 b3 b4 hS d0 d1
    obtain ⟨c0, c1, b0, b1, b2, b3, b4, hS⟩ := HBr.out
    by_cases hlt : j < tn
    · obtain ⟨mb, mo, hma, hmr⟩ := HM.out.rows (by have := HTN.out; omega)
      subst hma
      obtain ⟨fa, fn, fc, hcw, hf⟩ := hmr j (by have := HTN.out; omega)
      have hfn : fn = wn := by rw [← hf.len, HNW0.out]; exact (HOK.out.1.rows j (by rw [HLB.out]; have := HTN.out; omega)).1
      subst hfn
      have HF := Lib.hid hf
      have HFL := Lib.hid hf.len
      obtain ⟨row, hrow⟩ : ∃ row, bs.getD j [] = row := ⟨_, rfl⟩
      rw [hrow] at HF HFL
      have HROW := Lib.hid hrow
      have HCW := Lib.hid hcw
      have HOWN := Lib.hid hown
      have HD := Lib.hid hD
      have hj0 : (0 : Int) ≤ j := by omega
      have hj1 : (j : Int) < bn := by have := HTN.out; omega
      clear hmr hf hrow hcw hown hD
      go_wp2_with fail
      generalize hwO : wr = wo at *
      clear hwO
      go_loopw [11, 12] (fun s11 s12 wq => ∃ k : Nat, s11 = .int .u64 (imgUp P Q row ws k) ∧ s12 = .int .i64 k ∧ k ≤ fn ∧ Hid (ClS w gx cx P Q G H ra rn rc (.slice ta tn tc) (.slice (some ⟨mb, mo, none⟩) bn bc) wq ∧ Same wo wq)) (fun _ s12 _ => fn - (intOf s12).toNat)
      case atStart => exact ⟨0, rfl, rfl, by omega, Lib.hid ⟨HBr.out, Same.refl _⟩⟩
      case round =>
        clear c0 c1 b0 b1 b2 b3 b4 hj0 hj1
        obtain ⟨k, rfl, rfl, hk, HBq⟩ := hrel
        have HBS := Lib.hid HBq.out.2
        obtain ⟨c0, c1, b0, b1, b2, b3, b4, hS⟩ := HBq.out.1
        obtain ⟨x, ex⟩ : ∃ x, imgUp P Q row ws k = x := ⟨_, rfl⟩
        have hxu := imgUp_u P Q row ws k
        rw [ex] at hxu ⊢
        have HXU := Lib.hid hxu
        have HXE := Lib.hid ex
        clear ex hxu
        by_cases hlt2 : k < fn
        · obtain ⟨eb, eo, hea, hec⟩ := HF.out.cells (by omega)
          subst hea
          have hce := hec k hlt2
          obtain ⟨b, eb0⟩ : ∃ b, row.getD k 0 = b := ⟨_, rfl⟩
          rw [eb0] at hce
          have hb0 : 0 ≤ b := by rw [← eb0]; exact (HF.out.bd k).1
          obtain ⟨wb, wo', hwa, hwc⟩ := HW.out.cells (by omega)
          subst hwa
          have hcew := hwc k hlt2
          obtain ⟨e, ee⟩ : ∃ e, ws.getD k 0 = e := ⟨_, rfl⟩
          rw [ee] at hcew
          have HBE := Lib.hid (show 0 ≤ b ∧ U64 e from ⟨hb0, by rw [← ee]; exact HW.out.bd k⟩)
          obtain ⟨nx, enx⟩ : ∃ nx, mulI x (expI Q P b e) P = nx := ⟨_, rfl⟩
          have HNX := Lib.hid enx
          have HNX2 := Lib.hid (show imgUp P Q row ws (k + 1) = nx by rw [← enx, imgUp, HXE.out, eb0, ee])
          have HR0 := Lib.hid (show RI12 w gx cx mb (mo + j) eb (eo + k) wb (wo' + k) P Q G H ra rn rc (.slice ta tn tc) (.slice (some ⟨mb, mo, none⟩) bn bc) (.slice (some ⟨eb, eo, none⟩) fn fc) b e wr.drew from RI12.same ⟨same_cell hS HCW.out, same_cell hS hce, same_cell hS hcew, HBq.out.1⟩ (drew_same _))
          have hj0 : (0 : Int) ≤ j := by omega
          have hj1 : (j : Int) < bn := by have := HTN.out; omega
          have hk0 : (0 : Int) ≤ k := by omega
          have hk1 : (k : Int) < fn := by omega
          clear hec eb0 hwc ee hb0 hce hcew enx
          go_upto_region 12 with fail
          clear c0 c1 b0 b1 b2 b3 b4 hS
          refine wp_region_held_drew (S := fun w' => RI12 w gx cx mb (mo + j) eb (eo + k) wb (wo' + k) P Q G H ra rn rc (.slice ta tn tc) (.slice (some ⟨mb, mo, none⟩) bn bc) (.slice (some ⟨eb, eo, none⟩) fn fc) b e w') (by kernel_rfl) HR0.out (fun hHeld => ?_)
          refine wpAnyH_take (i := 0) (v := ?_) rfl (by kernel_rfl) (by kernel_rfl) (by kernel_rfl) (fun _ _ _ h => h) (Or.inl ⟨by rfl, ?_⟩) (by assumption) ?_
          rotate_left
          · intro w hSw; (try dsimp only at hSw); go_simp; try with_reducible rfl
          try simp only [Act.put, List.getElem_toArray, List.getElem_cons_succ, List.getElem_cons_zero, List.setIfInBounds_toArray, List.set_cons_zero, List.set_cons_succ]
          refine wpAnyH_take (i := 1) (v := ?_) rfl (by kernel_rfl) (by kernel_rfl) (by kernel_rfl) (fun _ _ _ h => h) (Or.inl ⟨by rfl, ?_⟩) (by assumption) ?_
          rotate_left
          · intro w hSw; (try dsimp only at hSw); go_simp; try with_reducible rfl
          try simp only [Act.put, List.getElem_toArray, List.getElem_cons_succ, List.getElem_cons_zero, List.setIfInBounds_toArray, List.set_cons_zero, List.set_cons_succ]
          refine wpAnyH_take (i := 2) (v := ?_) rfl (by kernel_rfl) (by kernel_rfl) (by kernel_rfl) (fun _ _ _ h => h) (Or.inl ⟨by rfl, ?_⟩) (by assumption) ?_
          rotate_left
          · intro w hSw; (try dsimp only at hSw); go_simp; try with_reducible rfl
          try simp only [Act.put, List.getElem_toArray, List.getElem_cons_succ, List.getElem_cons_zero, List.setIfInBounds_toArray, List.set_cons_zero, List.set_cons_succ]
          refine wpAnyH_take (i := 3) (v := ?_) rfl (by kernel_rfl) (by kernel_rfl) (by kernel_rfl) (fun _ _ _ h => h) (Or.inl ⟨by rfl, ?_⟩) (by assumption) ?_
          rotate_left
          · intro w hSw; (try dsimp only at hSw); go_simp; try with_reducible rfl
          try simp only [Act.put, List.getElem_toArray, List.getElem_cons_succ, List.getElem_cons_zero, List.setIfInBounds_toArray, List.set_cons_zero, List.set_cons_succ]
          refine wpAnyH_take (i := 4) (v := ?_) rfl (by kernel_rfl) (by kernel_rfl) (by kernel_rfl) (fun _ _ _ h => h) (Or.inl ⟨by rfl, ?_⟩) (by assumption) ?_
          rotate_left
          · intro w hSw; (try dsimp only at hSw); go_simp; try with_reducible rfl
          try simp only [Act.put, List.getElem_toArray, List.getElem_cons_succ, List.getElem_cons_zero, List.setIfInBounds_toArray, List.set_cons_zero, List.set_cons_succ]
          refine wpAnyH_take (i := 5) (v := ?_) rfl (by kernel_rfl) (by kernel_rfl) (by kernel_rfl) (fun _ _ _ h => h) (Or.inl ⟨by rfl, ?_⟩) (by assumption) ?_
          rotate_left
          · intro w hSw; (try dsimp only at hSw); go_simp; try with_reducible rfl
          try simp only [Act.put, List.getElem_toArray, List.getElem_cons_succ, List.getElem_cons_zero, List.setIfInBounds_toArray, List.set_cons_zero, List.set_cons_succ]
          refine wpAnyH_take (i := 6) (v := ?_) rfl (by kernel_rfl) (by kernel_rfl) (by kernel_rfl) (fun _ _ _ h => h) (Or.inl ⟨by rfl, ?_⟩) (by assumption) ?_
          rotate_left
          · intro w hSw; (try dsimp only at hSw); go_simp; try with_reducible rfl
          try simp only [Act.put, List.getElem_toArray, List.getElem_cons_succ, List.getElem_cons_zero, List.setIfInBounds_toArray, List.set_cons_zero, List.set_cons_succ]
          refine wpAnyH_take (i := 7) (v := ?_) rfl (by kernel_rfl) (by kernel_rfl) (by kernel_rfl) (fun _ _ _ h => h) (Or.inl ⟨by rfl, ?_⟩) (by assumption) ?_
          rotate_left
          · intro w hSw; (try dsimp only at hSw); go_simp; try with_reducible rfl
          try simp only [Act.put, List.getElem_toArray, List.getElem_cons_succ, List.getElem_cons_zero, List.setIfInBounds_toArray, List.set_cons_zero, List.set_cons_succ]
          refine wpAnyH_take (i := 8) (v := ?_) rfl (by kernel_rfl) (by kernel_rfl) (by kernel_rfl) (fun _ _ _ h => h) (Or.inl ⟨by rfl, ?_⟩) (by assumption) ?_
          rotate_left
          · intro w hSw; (try dsimp only at hSw); go_simp; try with_reducible rfl
          try simp only [Act.put, List.getElem_toArray, List.getElem_cons_succ, List.getElem_cons_zero, List.setIfInBounds_toArray, List.set_cons_zero, List.set_cons_succ]
          refine wpAnyH_take (i := 9) (v := ?_) rfl (by kernel_rfl) (by kernel_rfl) (by kernel_rfl) (fun _ _ _ h => h) (Or.inl ⟨by rfl, ?_⟩) (by assumption) ?_
          rotate_left
          · intro w hSw; (try dsimp only at hSw); go_simp; try with_reducible rfl
          try simp only [Act.put, List.getElem_toArray, List.getElem_cons_succ, List.getElem_cons_zero, List.setIfInBounds_toArray, List.set_cons_zero, List.set_cons_succ]
          refine wpAnyH_take (i := 10) (v := ?_) rfl (by kernel_rfl) (by kernel_rfl) (by kernel_rfl) (fun _ _ _ h => h) (Or.inl ⟨by rfl, ?_⟩) (by assumption) ?_
          rotate_left
          · intro w hSw; (try dsimp only at hSw); go_simp; try with_reducible rfl
          try simp only [Act.put, List.getElem_toArray, List.getElem_cons_succ, List.getElem_cons_zero, List.setIfInBounds_toArray, List.set_cons_zero, List.set_cons_succ]
          refine wpAnyH_take (i := 11) (v := ?_) rfl (by kernel_rfl) (by kernel_rfl) (by kernel_rfl) (fun _ _ _ h => h) (Or.inl ⟨by rfl, ?_⟩) (by assumption) ?_
          rotate_left
          · intro w hSw; (try dsimp only at hSw); go_simp; try with_reducible rfl
          try simp only [Act.put, List.getElem_toArray, List.getElem_cons_succ, List.getElem_cons_zero, List.setIfInBounds_toArray, List.set_cons_zero, List.set_cons_succ]
          refine wpAnyH_take (i := 12) (v := ?_) rfl (by kernel_rfl) (by kernel_rfl) (by kernel_rfl) (fun _ _ _ h => h) (Or.inl ⟨by rfl, ?_⟩) (by assumption) ?_
          rotate_left
          · intro w hSw; (try dsimp only at hSw); go_simp; try with_reducible rfl
          try simp only [Act.put, List.getElem_toArray, List.getElem_cons_succ, List.getElem_cons_zero, List.setIfInBounds_toArray, List.set_cons_zero, List.set_cons_succ]
          refine wpAnyH_take (i := 13) (v := ?_) rfl (by kernel_rfl) (by kernel_rfl) (by kernel_rfl) (fun _ _ _ h => h) (Or.inl ⟨by rfl, ?_⟩) (by assumption) ?_
          rotate_left
          · intro w hSw; (try dsimp only at hSw); go_simp; try with_reducible rfl
          try simp only [Act.put, List.getElem_toArray, List.getElem_cons_succ, List.getElem_cons_zero, List.setIfInBounds_toArray, List.set_cons_zero, List.set_cons_succ]
          refine wpAnyH_take (i := 15) (v := ?_) rfl (by kernel_rfl) (by kernel_rfl) (by kernel_rfl) (fun _ _ _ h => h) (Or.inl ⟨by rfl, ?_⟩) (by assumption) ?_
          rotate_left
          · intro w hSw; (try dsimp only at hSw); go_simp; try with_reducible rfl
          try simp only [Act.put, List.getElem_toArray, List.getElem_cons_succ, List.getElem_cons_zero, List.setIfInBounds_toArray, List.set_cons_zero, List.set_cons_succ]
          refine wpAnyH_take (i := 16) (v := ?_) rfl (by kernel_rfl) (by kernel_rfl) (by kernel_rfl) (fun _ _ _ h => h) (Or.inl ⟨by rfl, ?_⟩) (by assumption) ?_
          rotate_left
          · intro w hSw; (try dsimp only at hSw); go_simp; try with_reducible rfl
          try simp only [Act.put, List.getElem_toArray, List.getElem_cons_succ, List.getElem_cons_zero, List.setIfInBounds_toArray, List.set_cons_zero, List.set_cons_succ]
          refine wpAnyH_ready (rs := [14]) (by kernel_rfl) (by simp) ?_
          refine AllReadyH.cons rfl (fun K hK => ?_) AllReadyH.nil
          go_simp
          refine (rexp_any P Q G H ra rn rc b e HU.out.1.1 HU.out.2.1 HU.out.2.2 HBE.out.1 HBE.out.2.1 HBE.out.2.2 _).mono ?_
          rintro e1 w5 ⟨rfl, hT5⟩
          go_wp2_with fail
          refine hK.out _ _ ?_ (fun hHeld => ?_)
          · exact RI12.same (by with_reducible assumption) (by with_reducible assumption)
          clear hK K
          try simp only [Act.put, List.getElem_toArray, List.getElem_cons_succ, List.getElem_cons_zero, List.setIfInBounds_toArray, List.set_cons_zero, List.set_cons_succ]
          refine wpAnyH_ready (rs := [17]) (by kernel_rfl) (by simp) ?_
          refine AllReadyH.cons rfl (fun K hK => ?_) AllReadyH.nil
          go_simp
          refine (rmul_any x (expI Q P b e) P HXU.out.1 (expI_u _ _ _ _).1 HU.out.1.1 _).mono ?_
          rintro e1 w6 ⟨rfl, rfl⟩
          rw [show (mulS x.toNat (expI Q P b e).toNat P.toNat : Int) = nx from HNX.out]
          go_wp2_with fail
          refine hK.out _ _ ?_ (fun hHeld => ?_)
          · exact hHeld
          clear hK K
          try simp only [Act.put, List.getElem_toArray, List.getElem_cons_succ, List.getElem_cons_zero, List.setIfInBounds_toArray, List.set_cons_zero, List.set_cons_succ]
          refine wpAnyH_take (i := 18) (v := ?_) rfl (by kernel_rfl) (by kernel_rfl) (by kernel_rfl) (fun _ _ _ h => h) (Or.inl ⟨by rfl, ?_⟩) (by assumption) ?_
          rotate_left
          · intro w hSw; (try dsimp only at hSw); go_simp; try with_reducible rfl
          try simp only [Act.put, List.getElem_toArray, List.getElem_cons_succ, List.getElem_cons_zero, List.setIfInBounds_toArray, List.set_cons_zero, List.set_cons_succ]
          refine wpAnyH_done (by kernel_rfl) ?_ _
          have HCL := Lib.hid (And.intro hHeld.2.2.2 (HBS.out.trans (Same.trans (drew_same _) hT5)))
          clear hHeld
          go_wp2_with fail
          go_roundw
          case rel => exact ⟨k + 1, by rw [HNX2.out], by go_num, by omega, HCL⟩
          case measure => simp [intOf]; omega
        · obtain rfl : k = fn := by omega
          have hxr := Lib.hid (show x = imgRow P Q row ws by unfold imgRow; rw [HFL.out]; exact HXE.out.symm)
          have HN := Lib.hid (show imageS P Q (bs.take (j + 1)) ws = imageS P Q (bs.take j) ws ++ [x] by rw [imageS_snoc (by rw [HLB.out]; have := HTN.out; omega), HROW.out, hxr.out])
          have hl1 : (imageS P Q (bs.take j) ws).length = j := by rw [imageS_len, List.length_take, HLB.out]; have := HTN.out; omega
          have hown1 := HOWN.out.same HBS.out
          have hD1 := HD.out.trans HBS.out
          have hb64 := hbn.2
          have hjb : j < 64 := by have := HTN.out; omega
          clear c0 c1 b0 b1 b2 b3 b4 hS hbn
          go_wp2_with (first
            | (at_builtin; refine wpList_append_own _ rfl _ _ 26 rfl w1.heap.size 22 i0 (.int .u64 0) 1 8 Try.underlying26 hi hz0 hz1 hz2 rfl (by decide) _ _ _ rfl (hown1.own.alloc _) ⟨wr.heap.size, 0, none⟩ 1 1 [.int .u64 x] rfl rfl (one_new _ _ _) (one_cell _) (by rw [hl1]; unfold maxLen; omega) (by rw [hl1]; omega) (by have := hD1.size; simp; omega) ?_; intro v' w7 hown' hgrow _))
          go_roundw
          case rel => exact ⟨j + 1, by go_num, by omega, by rw [HN.out]; exact OwnI.push hown1.u HXU.out (by rw [hl1]; omega) hown', same_grown hD1 hown1 hgrow⟩
          case measure => simp [intOf]; omega
    · obtain rfl : j = tn := by omega
      rw [List.take_of_length_le (by rw [HLB.out]; have := HTN.out; omega)] at hown
      obtain ⟨oa, on, oc, rfl, hoi⟩ := hown.ints
      have HO := Lib.hid hoi
      have HV := Lib.hid (And.intro (imgB_yes HOK.out) (imgL_yes HOK.out))
      clear hown hoi
      go_wp2_with fail
      go_ret2
      exact ⟨oa, on, oc, by rw [HV.out.1]; rfl, by rw [HV.out.2]; exact HO.out, hS⟩
end Go.Proofs.Ytlnkpbaibnfhhaa
