/- Layer 14: DropRuns, walked. -/
import Derived.Test.YtchmhpfccanamaaDropR
set_option linter.unusedVariables false
set_option linter.unusedSimpArgs false
namespace Go.Proofs.Ytchmhpfccanamaa
open Go.RowKit
set_option maxRecDepth 100000 in
set_option maxHeartbeats 6400000 in
theorem lawRuns (na : Option Addr) (nn nc : Nat) (xs : List ActD) (w : World) (hn : ActsAt w na nn xs) (hnn : nn ≤ 9223372036854775807) :
    Calls Try.prog 4 #[.slice na nn nc] w fun e w' => e = .returned (.bool true) ∧ Same w w' := by
  obtain ⟨B, eB⟩ : ∃ B, w.heap.size = B := ⟨_, rfl⟩
  have EB := Lib.hid eB
  have HN := Lib.hid hn
  have hF : FromB B w w := by rw [← eB]; exact FromB.refl w
  clear eB hn
  go_enter Try.func4, Try.ntmps4
  go_wp2_with fail
  refine (awake14 _).mono ?_
  rintro e1 w1 ⟨rfl, hS1⟩
  have HF1 := Lib.hid (hF.same hS1)
  clear hF hS1
  have hn0 : (0 : Int) ≤ nn := by omega
  go_wp2_with fail
  go_loopw [3, 24] (fun s3 s24 wr => ∃ j : Nat, s24 = .int .i64 j ∧ s3 = .int .i64 (sumN xs j : Nat) ∧ j ≤ nn ∧ Hid (sumN xs j ≤ 2000) ∧ Hid (FromB B w wr)) (fun _ s24 _ => nn - (intOf s24).toNat)
  case atStart => exact ⟨0, rfl, rfl, by omega, Lib.hid (by simp [sumN]), HF1⟩
  case round =>
    obtain ⟨j, rfl, rfl, hj, hS, hF⟩ := hrel
    by_cases hlt : j < nn
    · obtain ⟨b, off, ha, hc⟩ := HN.out.cells (by omega)
      subst ha
      have hxs := hc j hlt
      have hea := HN.out.each j hlt
      have HSU := Lib.hid (show sumN xs (j + 1) = sumN xs j + (xs.getD j ac0).nn from rfl)
      obtain ⟨x, ex⟩ : ∃ x, xs.getD j ac0 = x := ⟨_, rfl⟩
      have hsm := hea.small
      rw [ex] at hxs HSU hsm
      obtain ⟨wh, ro, xa, xn, xc, xl, pl, e, f⟩ := x
      have hsw := hF.out.out EB.out
      have k0 := same_cell hsw hxs.1
      have k1 := same_cell hsw hxs.2.1
      have k2 := same_cell hsw hxs.2.2.1
      have k3 := same_cell hsw hxs.2.2.2.1
      have k4 := same_cell hsw hxs.2.2.2.2.1
      have k5 := same_cell hsw hxs.2.2.2.2.2
      simp only at k0 k1 k2 k3 k4 k5 hsm HSU
      obtain ⟨s, es⟩ : ∃ s, sumN xs j = s := ⟨_, rfl⟩
      have hs2 := hS.out
      rw [es] at hs2 HSU
      rw [es]
      have hj0 : (0 : Int) ≤ j := by omega
      have hj1 : (j : Int) < nn := by omega
      have hwr : IntKind.i64.wrap ((s : Int) + xn) = (s : Int) + xn := by simp [go_sem, IntKind.wrap_i64, wrap64]; omega
      clear hc hxs hea ex hsw es
      by_cases h2 : s + xn > 2000
      · have hd : decide ((s : Int) + xn > 2000) = true := decide_eq_true (by omega)
        have HF2 := Lib.hid (hF.out.alloc (.cells #[.int .i64 wh, .int .i64 ro, .slice xa xn xc, .int .u64 pl, .int .u64 e, .int .u64 f] 38))
        go_wp2_with fail
        go_ret
        exact ⟨rfl, HF2.out.out EB.out⟩
      · have hd : decide ((s : Int) + xn > 2000) = false := decide_eq_false (by omega)
        have HF2 := Lib.hid (hF.out.alloc (.cells #[.int .i64 wh, .int .i64 ro, .slice xa xn xc, .int .u64 pl, .int .u64 e, .int .u64 f] 38))
        have HS2 := Lib.hid (show sumN xs (j + 1) ≤ 2000 by rw [HSU.out]; omega)
        have HS3 := Lib.hid (show ((sumN xs (j + 1) : Nat) : Int) = (s : Int) + xn by rw [HSU.out]; omega)
        go_wp2_with fail
        go_roundw
        case rel => exact ⟨j + 1, by go_num, by rw [HS3.out], by omega, HS2, HF2⟩
        case measure => simp [intOf]; omega
    · obtain rfl : nn = j := by omega
      have HSN := Lib.hid hS.out
      clear hlt hS
      go_wp2_with fail
      refine (new_any _).mono ?_
      rintro e wz ⟨rfl, rfl⟩
      obtain ⟨w2, ew2⟩ : ∃ w2, wr.alloc (.cells #[.slice none 0 0, .int .i64 0] 55) = w2 := ⟨_, rfl⟩
      obtain ⟨ob, eob⟩ : ∃ ob, wr.heap.size = ob := ⟨_, rfl⟩
      have hO := OffAt.new wr
      rw [eob, ew2] at hO
      have hBo : B ≤ ob := by rw [← eob]; exact hF.out.le
      have HO2 := Lib.hid (hO.down hBo)
      have HF2 := Lib.hid (show FromB B w w2 by rw [← ew2]; exact hF.out.alloc _)
      rw [eob, ew2]
      clear eob ew2 hO
      go_upto_region 12 with fail
      obtain ⟨w3, ew3⟩ : ∃ w3, w2.alloc (.cells #[.slice none 0 0, .slice none 0 0, .int .i64 0] 43) = w3 := ⟨_, rfl⟩
      obtain ⟨pb, epb⟩ : ∃ pb, w2.heap.size = pb := ⟨_, rfl⟩
      have hs3 : Same w2 w3 := by rw [← ew3]; exact (Same.refl _).alloc _
      have HP3 := Lib.hid (show RefAt w3 pb [] 0 by rw [← ew3, ← epb]; exact RefAt.new w2)
      have HO3 := Lib.hid (HO2.out.same hs3)
      have HF3 := Lib.hid (HF2.out.same hs3)
      have HBP := Lib.hid (show B ≤ pb by rw [← epb]; exact HF2.out.le)
      rw [epb, ew3]
      clear epb ew3 hs3 hBo
      go_wp2_with fail
      go_loopw [41] (fun s41 wr => ∃ i : Nat, s41 = .int .i64 i ∧ i ≤ nn ∧ i ≤ 200 ∧ Hid (∃ L cnt, Rise L ∧ (0 ≤ cnt ∧ cnt ≤ (i : Int)) ∧ OffAt wr B ob (rnds L) cnt ∧ RefAt wr pb L cnt ∧ FromB B w wr)) (fun s41 _ => nn - (intOf s41).toNat)
      case atStart => exact ⟨0, rfl, by omega, by omega, Lib.hid ⟨[], 0, Rise.nil, by omega, HO3.out, HP3.out, HF3.out⟩⟩
      case round =>
        obtain ⟨i, rfl, hi, hi2, hI⟩ := hrel
        obtain ⟨L, cnt, hri, hcn, hof, hrf, hfr⟩ := hI.out
        have HRI := Lib.hid hri
        have HCN := Lib.hid hcn
        have HOF := Lib.hid hof
        have HRF := Lib.hid hrf
        have HFR := Lib.hid hfr
        clear hI hri hcn hof hrf hfr
        by_cases hlt : i < nn
        · obtain ⟨b, off, ha, hc⟩ := HN.out.cells (by omega)
          subst ha
          have hxs := hc i hlt
          have hea := HN.out.each i hlt
          have hsu := sumN_le xs nn i hlt
          obtain ⟨x, ex⟩ : ∃ x, xs.getD i ac0 = x := ⟨_, rfl⟩
          rw [ex] at hxs hea hsu
          obtain ⟨wh, ro, xa, xn, xc, xl, pl, e, f⟩ := x
          have hsw := HFR.out.out EB.out
          have k0 := same_cell hsw hxs.1
          have k1 := same_cell hsw hxs.2.1
          have k2 := same_cell hsw hxs.2.2.1
          have k3 := same_cell hsw hxs.2.2.2.1
          have k4 := same_cell hsw hxs.2.2.2.2.1
          have k5 := same_cell hsw hxs.2.2.2.2.2
          have hxn : xn ≤ 2000 := Nat.le_trans hsu HSN.out
          have HN0 := Lib.hid hea.notes
          have HPL := Lib.hid hea.place
          have HXL := Lib.hid (show xl.length ≤ 2000 by have := hea.notes.len; simp only at this; omega)
          simp only at k0 k1 k2 k3 k4 k5
          have hj0 : (0 : Int) ≤ i := by omega
          have hj1 : (i : Int) < nn := by omega
          clear hc hxs hea ex hsw hsu
          by_cases h200 : i = 200
          · subst h200
            have hb200 : (((200 : Nat) : Int) == 200) = true := by decide
            have HFZ := Lib.hid (HFR.out.alloc (.cells #[.int .i64 wh, .int .i64 ro, .slice xa xn xc, .int .u64 pl, .int .u64 e, .int .u64 f] 38))
            go_wp2_with fail
            refine (fetch_nil _).mono ?_
            rintro e1 wt ⟨rfl, hst⟩
            have HFY := Lib.hid ((HFZ.out.same hst).alloc (.cells #[.int .u64 0, .int .u64 0] 32))
            unfold fetV bodyV
            clear hst
            go_wp2_with fail
            refine (deliver_nil _).mono ?_
            rintro e1 wu ⟨rfl, hsu⟩
            have HFX := Lib.hid (HFY.out.same hsu)
            clear hsu
            go_wp2_with fail
            refine (count_nil _).mono ?_
            rintro e1 wv ⟨rfl, rfl⟩
            go_wp2_with fail
            refine (rounds_nil _).mono ?_
            rintro e1 wv ⟨rfl, rfl⟩
            go_wp2_with fail
            go_ret
            exact ⟨rfl, HFX.out.out EB.out⟩
          have hb200 : ((i : Int) == 200) = false := by simp; omega
          go_upto_region 16 with fail
          obtain ⟨xb, exb⟩ : ∃ xb, wr.heap.size = xb := ⟨_, rfl⟩
          obtain ⟨wx, ewx⟩ : ∃ wx, wr.alloc (.cells #[.int .i64 wh, .int .i64 ro, .slice xa xn xc, .int .u64 pl, .int .u64 e, .int .u64 f] 38) = wx := ⟨_, rfl⟩
          have hsx : Same wr wx := by rw [← ewx]; exact (Same.refl _).alloc _
          have HX := Lib.hid (show wx.heap[xb]? = some (.cells #[.int .i64 wh, .int .i64 ro, .slice xa xn xc, .int .u64 pl, .int .u64 e, .int .u64 f] 38 (0, 0)) by rw [← ewx, ← exb]; exact (MapKept.heap_alloc _ _).1)
          have HXP := Lib.hid (show xb ≠ pb by
            obtain ⟨_, _, _, _, h1, _⟩ := HRF.out.ex
            have := (Array.getElem?_eq_some_iff.1 h1).1
            omega)
          have HOX := Lib.hid (HOF.out.same hsx)
          have HRX := Lib.hid (HRF.out.same hsx)
          have HFX := Lib.hid (HFR.out.same hsx)
          rw [exb, ewx]
          clear exb ewx hsx k0 k1 k2 k3 k4 k5
          have x0 : wx.cell? ⟨xb, 0, none⟩ = some (.int .i64 wh) := by rw [cell_at HX.out]; rfl
          go_upto_if 50 with fail
          go_cut [9] (fun s9 wy => s9 = .pointer (some ⟨xb, 0, none⟩) ∧ Hid (∃ L cnt, Rise L ∧ (0 ≤ cnt ∧ cnt ≤ ((i + 1 : Nat) : Int)) ∧ OffAt wy B ob (rnds L) cnt ∧ RefAt wy pb L cnt ∧ FromB B w wy ∧ wy.heap[xb]? = some (.cells #[.int .i64 wh, .int .i64 ro, .slice xa xn xc, .int .u64 pl, .int .u64 e, .int .u64 f] 38 (0, 0))))
          case first =>
            by_cases hw : wh = 0
            · subst hw
              go_upto_region 17 with fail
              obtain ⟨wd, ewd⟩ : ∃ wd, wx.drew = wd := ⟨_, rfl⟩
              have hsd : Same wx wd := by rw [← ewd]; exact drew_same _
              have HOD := Lib.hid (HOX.out.same hsd)
              have HPD := Lib.hid (HRX.out.same hsd)
              have HFD := Lib.hid (HFX.out.same hsd)
              have HND := Lib.hid (HN0.out.same (HFD.out.out EB.out))
              have HXD := Lib.hid (show wd.heap[xb]? = some (.cells #[.int .i64 0, .int .i64 ro, .slice xa xn xc, .int .u64 pl, .int .u64 e, .int .u64 f] 38 (0, 0)) by rw [hsd.block xb (Array.getElem?_eq_some_iff.1 HX.out).1]; exact HX.out)
              have HNP := Lib.hid (show 0 < xn → ∀ ad, xa = some ad → ad.block ≠ pb by
                intro h0 ad had
                obtain ⟨b1, off1, e1, hc1⟩ := HN0.out.cells h0
                have h2 := World.block_lt_of_cell? w _ (hc1 0 h0).1
                have h3 := EB.out
                have h4 := HBP.out
                rw [had] at e1
                injection e1 with e1
                subst e1
                simp only at h2 ⊢
                omega)
              have EWD := Lib.hid ewd
              clear ewd hsd x0
              refine wp_region_held_drew (S := fun w' => w'.heap[xb]? = some (.cells #[.int .i64 0, .int .i64 ro, .slice xa xn xc, .int .u64 pl, .int .u64 e, .int .u64 f] 38 (0, 0))) (by kernel_rfl) (by rw [EWD.out]; exact HXD.out) (fun hHeld => ?_)
              rw [EWD.out] at hHeld ⊢
              refine wpAnyH_take (i := 0) (v := ?_) rfl (by kernel_rfl) (by kernel_rfl) (by kernel_rfl) (fun _ _ _ h => h) (Or.inl ⟨by rfl, ?_⟩) (by assumption) ?_
              rotate_left
              · intro w hSw; obtain ⟨q1, q2⟩ : w.cell? ⟨xb, 1, none⟩ = some (.int .i64 ro) ∧ w.cell? ⟨xb, 2, none⟩ = some (.slice xa xn xc) := ⟨by rw [cell_at hSw]; rfl, by rw [cell_at hSw]; rfl⟩; go_simp; try with_reducible rfl
              try simp only [Act.put, List.getElem_toArray, List.getElem_cons_succ, List.getElem_cons_zero, List.setIfInBounds_toArray, List.set_cons_zero, List.set_cons_succ]
              refine wpAnyH_take (i := 1) (v := ?_) rfl (by kernel_rfl) (by kernel_rfl) (by kernel_rfl) (fun _ _ _ h => h) (Or.inl ⟨by rfl, ?_⟩) (by assumption) ?_
              rotate_left
              · intro w hSw; obtain ⟨q1, q2⟩ : w.cell? ⟨xb, 1, none⟩ = some (.int .i64 ro) ∧ w.cell? ⟨xb, 2, none⟩ = some (.slice xa xn xc) := ⟨by rw [cell_at hSw]; rfl, by rw [cell_at hSw]; rfl⟩; go_simp; try with_reducible rfl
              try simp only [Act.put, List.getElem_toArray, List.getElem_cons_succ, List.getElem_cons_zero, List.setIfInBounds_toArray, List.set_cons_zero, List.set_cons_succ]
              refine wpAnyH_take (i := 2) (v := ?_) rfl (by kernel_rfl) (by kernel_rfl) (by kernel_rfl) (fun _ _ _ h => h) (Or.inl ⟨by rfl, ?_⟩) (by assumption) ?_
              rotate_left
              · intro w hSw; obtain ⟨q1, q2⟩ : w.cell? ⟨xb, 1, none⟩ = some (.int .i64 ro) ∧ w.cell? ⟨xb, 2, none⟩ = some (.slice xa xn xc) := ⟨by rw [cell_at hSw]; rfl, by rw [cell_at hSw]; rfl⟩; go_simp; try with_reducible rfl
              try simp only [Act.put, List.getElem_toArray, List.getElem_cons_succ, List.getElem_cons_zero, List.setIfInBounds_toArray, List.set_cons_zero, List.set_cons_succ]
              refine wpAnyH_take (i := 3) (v := ?_) rfl (by kernel_rfl) (by kernel_rfl) (by kernel_rfl) (fun _ _ _ h => h) (Or.inl ⟨by rfl, ?_⟩) (by assumption) ?_
              rotate_left
              · intro w hSw; obtain ⟨q1, q2⟩ : w.cell? ⟨xb, 1, none⟩ = some (.int .i64 ro) ∧ w.cell? ⟨xb, 2, none⟩ = some (.slice xa xn xc) := ⟨by rw [cell_at hSw]; rfl, by rw [cell_at hSw]; rfl⟩; go_simp; try with_reducible rfl
              try simp only [Act.put, List.getElem_toArray, List.getElem_cons_succ, List.getElem_cons_zero, List.setIfInBounds_toArray, List.set_cons_zero, List.set_cons_succ]
              refine wpAnyH_take (i := 4) (v := ?_) rfl (by kernel_rfl) (by kernel_rfl) (by kernel_rfl) (fun _ _ _ h => h) (Or.inl ⟨by rfl, ?_⟩) (by assumption) ?_
              rotate_left
              · intro w hSw; obtain ⟨q1, q2⟩ : w.cell? ⟨xb, 1, none⟩ = some (.int .i64 ro) ∧ w.cell? ⟨xb, 2, none⟩ = some (.slice xa xn xc) := ⟨by rw [cell_at hSw]; rfl, by rw [cell_at hSw]; rfl⟩; go_simp; try with_reducible rfl
              try simp only [Act.put, List.getElem_toArray, List.getElem_cons_succ, List.getElem_cons_zero, List.setIfInBounds_toArray, List.set_cons_zero, List.set_cons_succ]
              refine wpAnyH_take (i := 6) (v := ?_) rfl (by kernel_rfl) (by kernel_rfl) (by kernel_rfl) (fun _ _ _ h => h) (Or.inl ⟨by rfl, ?_⟩) (by assumption) ?_
              rotate_left
              · intro w hSw; obtain ⟨q1, q2⟩ : w.cell? ⟨xb, 1, none⟩ = some (.int .i64 ro) ∧ w.cell? ⟨xb, 2, none⟩ = some (.slice xa xn xc) := ⟨by rw [cell_at hSw]; rfl, by rw [cell_at hSw]; rfl⟩; go_simp; try with_reducible rfl
              try simp only [Act.put, List.getElem_toArray, List.getElem_cons_succ, List.getElem_cons_zero, List.setIfInBounds_toArray, List.set_cons_zero, List.set_cons_succ]
              refine wpAnyH_take (i := 7) (v := ?_) rfl (by kernel_rfl) (by kernel_rfl) (by kernel_rfl) (fun _ _ _ h => h) (Or.inl ⟨by rfl, ?_⟩) (by assumption) ?_
              rotate_left
              · intro w hSw; obtain ⟨q1, q2⟩ : w.cell? ⟨xb, 1, none⟩ = some (.int .i64 ro) ∧ w.cell? ⟨xb, 2, none⟩ = some (.slice xa xn xc) := ⟨by rw [cell_at hSw]; rfl, by rw [cell_at hSw]; rfl⟩; go_simp; try with_reducible rfl
              try simp only [Act.put, List.getElem_toArray, List.getElem_cons_succ, List.getElem_cons_zero, List.setIfInBounds_toArray, List.set_cons_zero, List.set_cons_succ]
              refine wpAnyH_take (i := 8) (v := ?_) rfl (by kernel_rfl) (by kernel_rfl) (by kernel_rfl) (fun _ _ _ h => h) (Or.inl ⟨by rfl, ?_⟩) (by assumption) ?_
              rotate_left
              · intro w hSw; obtain ⟨q1, q2⟩ : w.cell? ⟨xb, 1, none⟩ = some (.int .i64 ro) ∧ w.cell? ⟨xb, 2, none⟩ = some (.slice xa xn xc) := ⟨by rw [cell_at hSw]; rfl, by rw [cell_at hSw]; rfl⟩; go_simp; try with_reducible rfl
              try simp only [Act.put, List.getElem_toArray, List.getElem_cons_succ, List.getElem_cons_zero, List.setIfInBounds_toArray, List.set_cons_zero, List.set_cons_succ]
              refine wpAnyH_take (i := 9) (v := ?_) rfl (by kernel_rfl) (by kernel_rfl) (by kernel_rfl) (fun _ _ _ h => h) (Or.inl ⟨by rfl, ?_⟩) (by assumption) ?_
              rotate_left
              · intro w hSw; obtain ⟨q1, q2⟩ : w.cell? ⟨xb, 1, none⟩ = some (.int .i64 ro) ∧ w.cell? ⟨xb, 2, none⟩ = some (.slice xa xn xc) := ⟨by rw [cell_at hSw]; rfl, by rw [cell_at hSw]; rfl⟩; go_simp; try with_reducible rfl
              try simp only [Act.put, List.getElem_toArray, List.getElem_cons_succ, List.getElem_cons_zero, List.setIfInBounds_toArray, List.set_cons_zero, List.set_cons_succ]
              refine wpAnyH_take (i := 10) (v := ?_) rfl (by kernel_rfl) (by kernel_rfl) (by kernel_rfl) (fun _ _ _ h => h) (Or.inl ⟨by rfl, ?_⟩) (by assumption) ?_
              rotate_left
              · intro w hSw; obtain ⟨q1, q2⟩ : w.cell? ⟨xb, 1, none⟩ = some (.int .i64 ro) ∧ w.cell? ⟨xb, 2, none⟩ = some (.slice xa xn xc) := ⟨by rw [cell_at hSw]; rfl, by rw [cell_at hSw]; rfl⟩; go_simp; try with_reducible rfl
              try simp only [Act.put, List.getElem_toArray, List.getElem_cons_succ, List.getElem_cons_zero, List.setIfInBounds_toArray, List.set_cons_zero, List.set_cons_succ]
              refine wpAnyH_ready (rs := [5]) (by kernel_rfl) (by simp) ?_
              refine AllReadyH.cons rfl (fun K hK => ?_) AllReadyH.nil
              go_simp
              refine (deliver_any B ob (rnds L) cnt ro xa xn xc xl (by rw [rnds_len]; exact HRI.out.few) (by have := HCN.out; omega) (by omega) _ HOD.out HND.out).mono ?_
              rintro e1 w5 ⟨rfl, hO5, hK5, hB5⟩
              rw [delR_rnds, cntD_rnds] at hO5
              rw [okD_rnds]
              have HO5 := Lib.hid hO5
              have HP5 := Lib.hid (HPD.out.keep hK5)
              have HF5 := Lib.hid (HFD.out.more hB5)
              have HX5 := Lib.hid (hK5 xb _ HXD.out (fun _ _ e => by injection e with _ e _; cases e) (fun _ _ e => by injection e with _ e _; cases e))
              have HN5 := Lib.hid (HN0.out.same (HF5.out.out EB.out))
              clear hO5 hK5 hB5
              refine hK.out _ _ ?_ (fun hHeld => ?_)
              · exact HX5.out
              clear hK K
              try simp only [Act.put, List.getElem_toArray, List.getElem_cons_succ, List.getElem_cons_zero, List.setIfInBounds_toArray, List.set_cons_zero, List.set_cons_succ]
              refine wpAnyH_ready (rs := [11]) (by kernel_rfl) (by simp) ?_
              refine AllReadyH.cons rfl (fun K hK => ?_) AllReadyH.nil
              go_simp
              refine (refDeliver_any pb L cnt ro xa xn xc xl HRI.out.few (by have := HCN.out; omega) (by omega) _ HP5.out HN5.out HNP.out).mono ?_
              rintro e1 w6 ⟨rfl, hP6, hO6⟩
              obtain ⟨cur5, hpt5⟩ := HP5.out.typed
              have HO6 := Lib.hid (HO5.out.only hpt5 hO6)
              have HP6 := Lib.hid hP6
              have HF6 := Lib.hid (HF5.out.more (hO6.below HBP.out HF5.out.le))
              have HX6 := Lib.hid (hO6.block xb (Array.getElem?_eq_some_iff.1 HX5.out).1 HXP.out |>.trans HX5.out)
              clear hP6 hO6 hpt5
              refine hK.out _ _ ?_ (fun hHeld => ?_)
              · exact HX6.out
              clear hK K
              try simp only [Act.put, List.getElem_toArray, List.getElem_cons_succ, List.getElem_cons_zero, List.setIfInBounds_toArray, List.set_cons_zero, List.set_cons_succ]
              refine wpAnyH_take (i := 12) (v := ?_) rfl (by kernel_rfl) (by kernel_rfl) (by kernel_rfl) (fun _ _ _ h => h) (Or.inl ⟨by rfl, ?_⟩) (by assumption) ?_
              rotate_left
              · intro w hSw; obtain ⟨q1, q2⟩ : w.cell? ⟨xb, 1, none⟩ = some (.int .i64 ro) ∧ w.cell? ⟨xb, 2, none⟩ = some (.slice xa xn xc) := ⟨by rw [cell_at hSw]; rfl, by rw [cell_at hSw]; rfl⟩; go_simp; try with_reducible rfl
              try simp only [Act.put, List.getElem_toArray, List.getElem_cons_succ, List.getElem_cons_zero, List.setIfInBounds_toArray, List.set_cons_zero, List.set_cons_succ]
              refine wpAnyH_done (by kernel_rfl) ?_ _
              clear hHeld
              have hbn : (okL L ro != okL L ro) = false := by simp
              go_wp2_with fail
              go_meet
              exact ⟨rfl, Lib.hid ⟨delL L ro xl, cntL L ro cnt, HRI.out.del _ _ HXL.out, cntL_le _ _ _ _ HCN.out, HO6.out, HP6.out, HF6.out, HX6.out⟩⟩
            · have hbw : (wh == 0) = false := by simpa using hw
              go_wp2_with fail
              go_meet
              exact ⟨rfl, Lib.hid ⟨L, cnt, HRI.out, ⟨HCN.out.1, by have := HCN.out.2; omega⟩, HOX.out, HRX.out, HFX.out, HX.out⟩⟩
          case rest =>
            obtain ⟨e9, hC⟩ := hcut
            subst e9
            obtain ⟨wy, rfl⟩ : ∃ wz, wz = wc := ⟨_, rfl⟩
            obtain ⟨L, cnt, hri, hcn, hof, hrf, hfr, hxy⟩ := hC.out
            have HRI := Lib.hid hri
            have HCN := Lib.hid hcn
            have HOF := Lib.hid hof
            have HRF := Lib.hid hrf
            have HFR := Lib.hid hfr
            have HXY := Lib.hid hxy
            have y1 : wy.cell? ⟨xb, 1, none⟩ = some (.int .i64 ro) := by rw [cell_at hxy]; rfl
            have y3 : wy.cell? ⟨xb, 3, none⟩ = some (.int .u64 pl) := by rw [cell_at hxy]; rfl
            have y4 : wy.cell? ⟨xb, 4, none⟩ = some (.int .u64 e) := by rw [cell_at hxy]; rfl
            have y5 : wy.cell? ⟨xb, 5, none⟩ = some (.int .u64 f) := by rw [cell_at hxy]; rfl
            have hres : ∃ p q ok, fetV (fetchR (rnds L) ro pl (e, f)) = .tuple #[.agg #[.int .u64 p, .int .u64 q], .bool ok] := by
              cases fetchR (rnds L) ro pl (e, f) with
              | none => exact ⟨0, 0, false, rfl⟩
              | some b => exact ⟨b.1, b.2, true, rfl⟩
            obtain ⟨p, q, ok, hres⟩ := hres
            have HRES := Lib.hid hres
            clear hC hri hcn hof hrf hfr hxy hres HOX HRX HFX HX
            go_wp2_with fail
            refine (fetch_any B ob (rnds L) cnt ro pl e f (by rw [rnds_len]; have := HRI.out.few; omega) HPL.out _ HOF.out).mono ?_
            rintro e1 w4 ⟨rfl, hs4⟩
            rw [HRES.out]
            obtain ⟨w5, ew5⟩ : ∃ w5, w4.alloc (.cells #[.int .u64 p, .int .u64 q] 32) = w5 := ⟨_, rfl⟩
            obtain ⟨pa, epa⟩ : ∃ pa, w4.heap.size = pa := ⟨_, rfl⟩
            have hs5 : Same w4 w5 := by rw [← ew5]; exact (Same.refl _).alloc _
            have hsa : Same wy w5 := hs4.trans hs5
            have HNA := Lib.hid (show w5.cell? ⟨pa, 0, none⟩ = some (.int .u64 p) ∧ w5.cell? ⟨pa, 1, none⟩ = some (.int .u64 q) by rw [← ew5, ← epa]; exact new_two2 w4 _ _ _)
            have HO5 := Lib.hid (HOF.out.same hsa)
            have HP5 := Lib.hid (HRF.out.same hsa)
            have HF5 := Lib.hid (HFR.out.same hsa)
            have z1 := same_cell hsa y1
            have z3 := same_cell hsa y3
            have z4 := same_cell hsa y4
            have z5 := same_cell hsa y5
            have EW5 := Lib.hid ew5
            have EPA := Lib.hid epa
            clear y1 y3 y4 y5 hs4 hs5 hsa ew5 epa
            go_upto_region 20 with fail
            rw [EW5.out, EPA.out]
            go_wp2_with fail
            refine (refFetch_any pb L cnt ro pl e f HRI.out.few HRI.out.apart (fun i hi => by have := HRI.out.short i hi; omega) _ HP5.out).mono ?_
            rintro e1 w6 ⟨rfl, hs6⟩
            rw [HRES.out]
            obtain ⟨w7, ew7⟩ : ∃ w7, w6.alloc (.cells #[.int .u64 p, .int .u64 q] 32) = w7 := ⟨_, rfl⟩
            obtain ⟨pc, epc⟩ : ∃ pc, w6.heap.size = pc := ⟨_, rfl⟩
            have hs7 : Same w6 w7 := by rw [← ew7]; exact (Same.refl _).alloc _
            have hsa : Same w5 w7 := hs6.trans hs7
            have HNC := Lib.hid (show w7.cell? ⟨pc, 0, none⟩ = some (.int .u64 p) ∧ w7.cell? ⟨pc, 1, none⟩ = some (.int .u64 q) by rw [← ew7, ← epc]; exact new_two2 w6 _ _ _)
            have HNA7 := Lib.hid (And.intro (same_cell hsa HNA.out.1) (same_cell hsa HNA.out.2))
            have HO7 := Lib.hid (HO5.out.same hsa)
            have HP7 := Lib.hid (HP5.out.same hsa)
            have HF7 := Lib.hid (HF5.out.same hsa)
            have EW7 := Lib.hid ew7
            have EPC := Lib.hid epc
            clear z1 z3 z4 z5 hs6 hs7 hsa ew7 epc
            go_upto_region 21 with fail
            rw [EW7.out, EPC.out]
            go_wp2_with fail
            refine (rounds_any B ob (rnds L) cnt (by rw [rnds_len]; have := HRI.out.few; omega) _ HO7.out).mono ?_
            rintro e1 w8 ⟨a8, c8, rfl, hn8, hs8⟩
            rw [rnds_len]
            obtain ⟨wd, ewd⟩ : ∃ wd, w8.drew = wd := ⟨_, rfl⟩
            have hsd : Same w8 wd := by rw [← ewd]; exact drew_same _
            have hsa : Same w7 wd := hs8.trans hsd
            have HO22 := Lib.hid (HO7.out.same hsa)
            have HP22 := Lib.hid (HP7.out.same hsa)
            have HF22 := Lib.hid (HF7.out.same hsa)
            have HN8 := Lib.hid (hn8.same hsd)
            obtain ⟨a1, c1, a2, c2, hpp, _, _, hin, _⟩ := HP22.out.ex
            obtain ⟨m, em⟩ : ∃ m, L.length = m := ⟨_, rfl⟩
            have EM := Lib.hid em
            rw [em]
            have pb0 : wd.cell? ⟨pb, 0, none⟩ = some (.slice a1 m c1) := by rw [cell_at hpp, ← em]; rfl
            have pb2 : wd.cell? ⟨pb, 2, none⟩ = some (.int .i64 cnt) := by rw [cell_at hpp]; rfl
            have HPB := Lib.hid pb0
            have HIN := Lib.hid hin
            have pa0 := same_cell hsa HNA7.out.1
            have pa1 := same_cell hsa HNA7.out.2
            have pc0 := same_cell hsa HNC.out.1
            have pc1 := same_cell hsa HNC.out.2
            have heq := equal_body p q p q
            have hbok : (ok != ok) = false := by simp
            have hbc : (cnt != cnt) = false := by simp
            have hbm : ((m : Int) != m) = false := by simp
            have hm16 : m ≤ 16 := by rw [← em]; exact HRI.out.few
            have EWD := Lib.hid ewd
            clear hn8 hs8 ewd hsd hsa hpp hin em
            go_upto_region 22 with fail
            refine wp_region_held_drew (S := fun w' => w' = wd) (by kernel_rfl) EWD.out (fun hHeld => ?_)
            rw [EWD.out] at hHeld ⊢
            refine wpAnyH_take (i := 0) (v := ?_) rfl (by kernel_rfl) (by kernel_rfl) (by kernel_rfl) (fun _ _ _ h => h) (Or.inl ⟨by rfl, ?_⟩) (by assumption) ?_
            rotate_left
            · intro w hSw; subst hSw; go_simp; try with_reducible rfl
            try simp only [Act.put, List.getElem_toArray, List.getElem_cons_succ, List.getElem_cons_zero, List.setIfInBounds_toArray, List.set_cons_zero, List.set_cons_succ]
            refine wpAnyH_take (i := 1) (v := ?_) rfl (by kernel_rfl) (by kernel_rfl) (by kernel_rfl) (fun _ _ _ h => h) (Or.inl ⟨by rfl, ?_⟩) (by assumption) ?_
            rotate_left
            · intro w hSw; subst hSw; go_simp; try with_reducible rfl
            try simp only [Act.put, List.getElem_toArray, List.getElem_cons_succ, List.getElem_cons_zero, List.setIfInBounds_toArray, List.set_cons_zero, List.set_cons_succ]
            refine wpAnyH_take (i := 2) (v := ?_) rfl (by kernel_rfl) (by kernel_rfl) (by kernel_rfl) (fun _ _ _ h => h) (Or.inl ⟨by rfl, ?_⟩) (by assumption) ?_
            rotate_left
            · intro w hSw; subst hSw; go_simp; try with_reducible rfl
            try simp only [Act.put, List.getElem_toArray, List.getElem_cons_succ, List.getElem_cons_zero, List.setIfInBounds_toArray, List.set_cons_zero, List.set_cons_succ]
            refine wpAnyH_take (i := 3) (v := ?_) rfl (by kernel_rfl) (by kernel_rfl) (by kernel_rfl) (fun _ _ _ h => h) (Or.inl ⟨by rfl, ?_⟩) (by assumption) ?_
            rotate_left
            · intro w hSw; subst hSw; go_simp; try with_reducible rfl
            try simp only [Act.put, List.getElem_toArray, List.getElem_cons_succ, List.getElem_cons_zero, List.setIfInBounds_toArray, List.set_cons_zero, List.set_cons_succ]
            refine wpAnyH_take (i := 4) (v := ?_) rfl (by kernel_rfl) (by kernel_rfl) (by kernel_rfl) (fun _ _ _ h => h) (Or.inl ⟨by rfl, ?_⟩) (by assumption) ?_
            rotate_left
            · intro w hSw; subst hSw; go_simp; try with_reducible rfl
            try simp only [Act.put, List.getElem_toArray, List.getElem_cons_succ, List.getElem_cons_zero, List.setIfInBounds_toArray, List.set_cons_zero, List.set_cons_succ]
            refine wpAnyH_take (i := 5) (v := ?_) rfl (by kernel_rfl) (by kernel_rfl) (by kernel_rfl) (fun _ _ _ h => h) (Or.inl ⟨by rfl, ?_⟩) (by assumption) ?_
            rotate_left
            · intro w hSw; subst hSw; go_simp; try with_reducible rfl
            try simp only [Act.put, List.getElem_toArray, List.getElem_cons_succ, List.getElem_cons_zero, List.setIfInBounds_toArray, List.set_cons_zero, List.set_cons_succ]
            refine wpAnyH_take (i := 6) (v := ?_) rfl (by kernel_rfl) (by kernel_rfl) (by kernel_rfl) (fun _ _ _ h => h) (Or.inl ⟨by rfl, ?_⟩) (by assumption) ?_
            rotate_left
            · intro w hSw; subst hSw; go_simp; try with_reducible rfl
            try simp only [Act.put, List.getElem_toArray, List.getElem_cons_succ, List.getElem_cons_zero, List.setIfInBounds_toArray, List.set_cons_zero, List.set_cons_succ]
            refine wpAnyH_take (i := 7) (v := ?_) rfl (by kernel_rfl) (by kernel_rfl) (by kernel_rfl) (fun _ _ _ h => h) (Or.inl ⟨by rfl, ?_⟩) (by assumption) ?_
            rotate_left
            · intro w hSw; subst hSw; go_simp; try with_reducible rfl
            try simp only [Act.put, List.getElem_toArray, List.getElem_cons_succ, List.getElem_cons_zero, List.setIfInBounds_toArray, List.set_cons_zero, List.set_cons_succ]
            refine wpAnyH_take (i := 8) (v := ?_) rfl (by kernel_rfl) (by kernel_rfl) (by kernel_rfl) (fun _ _ _ h => h) (Or.inl ⟨by rfl, ?_⟩) (by assumption) ?_
            rotate_left
            · intro w hSw; subst hSw; go_simp; try with_reducible rfl
            try simp only [Act.put, List.getElem_toArray, List.getElem_cons_succ, List.getElem_cons_zero, List.setIfInBounds_toArray, List.set_cons_zero, List.set_cons_succ]
            refine wpAnyH_take (i := 9) (v := ?_) rfl (by kernel_rfl) (by kernel_rfl) (by kernel_rfl) (fun _ _ _ h => h) (Or.inl ⟨by rfl, ?_⟩) (by assumption) ?_
            rotate_left
            · intro w hSw; subst hSw; go_simp; try with_reducible rfl
            try simp only [Act.put, List.getElem_toArray, List.getElem_cons_succ, List.getElem_cons_zero, List.setIfInBounds_toArray, List.set_cons_zero, List.set_cons_succ]
            refine wpAnyH_take (i := 11) (v := ?_) rfl (by kernel_rfl) (by kernel_rfl) (by kernel_rfl) (fun _ _ _ h => h) (Or.inl ⟨by rfl, ?_⟩) (by assumption) ?_
            rotate_left
            · intro w hSw; subst hSw; go_simp; try with_reducible rfl
            try simp only [Act.put, List.getElem_toArray, List.getElem_cons_succ, List.getElem_cons_zero, List.setIfInBounds_toArray, List.set_cons_zero, List.set_cons_succ]
            refine wpAnyH_take (i := 12) (v := ?_) rfl (by kernel_rfl) (by kernel_rfl) (by kernel_rfl) (fun _ _ _ h => h) (Or.inl ⟨by rfl, ?_⟩) (by assumption) ?_
            rotate_left
            · intro w hSw; subst hSw; go_simp; try with_reducible rfl
            try simp only [Act.put, List.getElem_toArray, List.getElem_cons_succ, List.getElem_cons_zero, List.setIfInBounds_toArray, List.set_cons_zero, List.set_cons_succ]
            refine wpAnyH_take (i := 13) (v := ?_) rfl (by kernel_rfl) (by kernel_rfl) (by kernel_rfl) (fun _ _ _ h => h) (Or.inl ⟨by rfl, ?_⟩) (by assumption) ?_
            rotate_left
            · intro w hSw; subst hSw; go_simp; try with_reducible rfl
            try simp only [Act.put, List.getElem_toArray, List.getElem_cons_succ, List.getElem_cons_zero, List.setIfInBounds_toArray, List.set_cons_zero, List.set_cons_succ]
            refine wpAnyH_take (i := 14) (v := ?_) rfl (by kernel_rfl) (by kernel_rfl) (by kernel_rfl) (fun _ _ _ h => h) (Or.inl ⟨by rfl, ?_⟩) (by assumption) ?_
            rotate_left
            · intro w hSw; subst hSw; go_simp; try with_reducible rfl
            try simp only [Act.put, List.getElem_toArray, List.getElem_cons_succ, List.getElem_cons_zero, List.setIfInBounds_toArray, List.set_cons_zero, List.set_cons_succ]
            refine wpAnyH_ready (rs := [10]) (by kernel_rfl) (by simp) ?_
            refine AllReadyH.cons rfl (fun K hK => ?_) AllReadyH.nil
            go_simp
            refine (count_any B ob _ _ _ HO22.out).mono ?_
            rintro e1 wq ⟨rfl, rfl⟩
            refine hK.out _ _ ?_ (fun hHeld => ?_)
            · exact rfl
            clear hK K
            try simp only [Act.put, List.getElem_toArray, List.getElem_cons_succ, List.getElem_cons_zero, List.setIfInBounds_toArray, List.set_cons_zero, List.set_cons_succ]
            refine wpAnyH_take (i := 15) (v := ?_) rfl (by kernel_rfl) (by kernel_rfl) (by kernel_rfl) (fun _ _ _ h => h) (Or.inl ⟨by rfl, ?_⟩) (by assumption) ?_
            rotate_left
            · intro w hSw; subst hSw; go_simp; try with_reducible rfl
            try simp only [Act.put, List.getElem_toArray, List.getElem_cons_succ, List.getElem_cons_zero, List.setIfInBounds_toArray, List.set_cons_zero, List.set_cons_succ]
            refine wpAnyH_take (i := 16) (v := ?_) rfl (by kernel_rfl) (by kernel_rfl) (by kernel_rfl) (fun _ _ _ h => h) (Or.inl ⟨by rfl, ?_⟩) (by assumption) ?_
            rotate_left
            · intro w hSw; subst hSw; go_simp; try with_reducible rfl
            try simp only [Act.put, List.getElem_toArray, List.getElem_cons_succ, List.getElem_cons_zero, List.setIfInBounds_toArray, List.set_cons_zero, List.set_cons_succ]
            refine wpAnyH_take (i := 17) (v := ?_) rfl (by kernel_rfl) (by kernel_rfl) (by kernel_rfl) (fun _ _ _ h => h) (Or.inl ⟨by rfl, ?_⟩) (by assumption) ?_
            rotate_left
            · intro w hSw; subst hSw; go_simp; try with_reducible rfl
            try simp only [Act.put, List.getElem_toArray, List.getElem_cons_succ, List.getElem_cons_zero, List.setIfInBounds_toArray, List.set_cons_zero, List.set_cons_succ]
            refine wpAnyH_take (i := 18) (v := ?_) rfl (by kernel_rfl) (by kernel_rfl) (by kernel_rfl) (fun _ _ _ h => h) (Or.inl ⟨by rfl, ?_⟩) (by assumption) ?_
            rotate_left
            · intro w hSw; subst hSw; go_simp; try with_reducible rfl
            try simp only [Act.put, List.getElem_toArray, List.getElem_cons_succ, List.getElem_cons_zero, List.setIfInBounds_toArray, List.set_cons_zero, List.set_cons_succ]
            refine wpAnyH_take (i := 19) (v := ?_) rfl (by kernel_rfl) (by kernel_rfl) (by kernel_rfl) (fun _ _ _ h => h) (Or.inl ⟨by rfl, ?_⟩) (by assumption) ?_
            rotate_left
            · intro w hSw; subst hSw; go_simp; try with_reducible rfl
            try simp only [Act.put, List.getElem_toArray, List.getElem_cons_succ, List.getElem_cons_zero, List.setIfInBounds_toArray, List.set_cons_zero, List.set_cons_succ]
            refine wpAnyH_take (i := 20) (v := ?_) rfl (by kernel_rfl) (by kernel_rfl) (by kernel_rfl) (fun _ _ _ h => h) (Or.inl ⟨by rfl, ?_⟩) (by assumption) ?_
            rotate_left
            · intro w hSw; subst hSw; go_simp; try with_reducible rfl
            try simp only [Act.put, List.getElem_toArray, List.getElem_cons_succ, List.getElem_cons_zero, List.setIfInBounds_toArray, List.set_cons_zero, List.set_cons_succ]
            refine wpAnyH_take (i := 21) (v := ?_) rfl (by kernel_rfl) (by kernel_rfl) (by kernel_rfl) (fun _ _ _ h => h) (Or.inl ⟨by rfl, ?_⟩) (by assumption) ?_
            rotate_left
            · intro w hSw; subst hSw; go_simp; try with_reducible rfl
            try simp only [Act.put, List.getElem_toArray, List.getElem_cons_succ, List.getElem_cons_zero, List.setIfInBounds_toArray, List.set_cons_zero, List.set_cons_succ]
            refine wpAnyH_take (i := 22) (v := ?_) rfl (by kernel_rfl) (by kernel_rfl) (by kernel_rfl) (fun _ _ _ h => h) (Or.inl ⟨by rfl, ?_⟩) (by assumption) ?_
            rotate_left
            · intro w hSw; subst hSw; go_simp; try with_reducible rfl
            try simp only [Act.put, List.getElem_toArray, List.getElem_cons_succ, List.getElem_cons_zero, List.setIfInBounds_toArray, List.set_cons_zero, List.set_cons_succ]
            refine wpAnyH_take (i := 23) (v := ?_) rfl (by kernel_rfl) (by kernel_rfl) (by kernel_rfl) (fun _ _ _ h => h) (Or.inl ⟨by rfl, ?_⟩) (by assumption) ?_
            rotate_left
            · intro w hSw; subst hSw; go_simp; try with_reducible rfl
            try simp only [Act.put, List.getElem_toArray, List.getElem_cons_succ, List.getElem_cons_zero, List.setIfInBounds_toArray, List.set_cons_zero, List.set_cons_succ]
            refine wpAnyH_take (i := 24) (v := ?_) rfl (by kernel_rfl) (by kernel_rfl) (by kernel_rfl) (fun _ _ _ h => h) (Or.inl ⟨by rfl, ?_⟩) (by assumption) ?_
            rotate_left
            · intro w hSw; subst hSw; go_simp; try with_reducible rfl
            try simp only [Act.put, List.getElem_toArray, List.getElem_cons_succ, List.getElem_cons_zero, List.setIfInBounds_toArray, List.set_cons_zero, List.set_cons_succ]
            refine wpAnyH_take (i := 25) (v := ?_) rfl (by kernel_rfl) (by kernel_rfl) (by kernel_rfl) (fun _ _ _ h => h) (Or.inl ⟨by rfl, ?_⟩) (by assumption) ?_
            rotate_left
            · intro w hSw; subst hSw; go_simp; try with_reducible rfl
            try simp only [Act.put, List.getElem_toArray, List.getElem_cons_succ, List.getElem_cons_zero, List.setIfInBounds_toArray, List.set_cons_zero, List.set_cons_succ]
            refine wpAnyH_take (i := 26) (v := ?_) rfl (by kernel_rfl) (by kernel_rfl) (by kernel_rfl) (fun _ _ _ h => h) (Or.inl ⟨by rfl, ?_⟩) (by assumption) ?_
            rotate_left
            · intro w hSw; subst hSw; go_simp; try with_reducible rfl
            try simp only [Act.put, List.getElem_toArray, List.getElem_cons_succ, List.getElem_cons_zero, List.setIfInBounds_toArray, List.set_cons_zero, List.set_cons_succ]
            refine wpAnyH_done (by kernel_rfl) ?_ _
            clear hHeld heq pa0 pa1 pc0 pc1 pb0 pb2
            have hm0 : (0 : Int) ≤ m := by omega
            go_wp2_with fail
            go_loopw [117] (fun s117 wr => ∃ k : Nat, s117 = .int .i64 k ∧ k ≤ m ∧ Hid (Same wq wr)) (fun s117 _ => m - (intOf s117).toNat)
            case atStart => exact ⟨0, rfl, by omega, Lib.hid (Same.refl _)⟩
            case round =>
              obtain ⟨k, rfl, hk, hD⟩ := hrel
              by_cases hltk : k < m
              · obtain ⟨g8, e8, hc8⟩ := HN8.out.cells (by rw [rnds_len, EM.out]; omega)
                subst e8
                obtain ⟨g1, o1, cur1, fz1, e1, hh1, hc1⟩ := HIN.out.cells (by rw [List.length_map, EM.out]; omega)
                subst e1
                obtain ⟨z, ez⟩ : ∃ z, (L.getD k (0, [])).1 = z := ⟨_, rfl⟩
                have c8' := hc8 k (by rw [rnds_len, EM.out]; exact hltk)
                rw [rnds_at L k (by rw [EM.out]; exact hltk), ez] at c8'
                have v8 := same_cell hD.out c8'
                have c1' : wq.cell? ⟨g1, o1 + k, none⟩ = some (.int .i64 z) := by rw [cell_at hh1, hc1 k (by rw [List.length_map, EM.out]; exact hltk), fst_at L k (by rw [EM.out]; exact hltk), ez]
                have v1 := same_cell hD.out c1'
                have vp := same_cell hD.out HPB.out
                have hk0 : (0 : Int) ≤ k := by omega
                have hk1 : (k : Int) < m := by omega
                have hbz : (z != z) = false := by simp
                clear hc8 hc1 hh1 c8' c1' ez
                go_wp2_with fail
                go_roundw
                case rel => exact ⟨k + 1, by go_num, by omega, hD⟩
                case measure => simp [intOf]; omega
              · obtain rfl : m = k := by omega
                have HEND := Lib.hid (show ∃ L cnt, Rise L ∧ (0 ≤ cnt ∧ cnt ≤ ((i + 1 : Nat) : Int)) ∧ OffAt wr B ob (rnds L) cnt ∧ RefAt wr pb L cnt ∧ FromB B w wr from ⟨L, cnt, HRI.out, HCN.out, HO22.out.same hD.out, HP22.out.same hD.out, HF22.out.same hD.out⟩)
                go_wp2_with fail
                go_roundw
                case rel => exact ⟨i + 1, by go_num, by omega, by omega, HEND⟩
                case measure => simp [intOf]; omega
        · obtain rfl : nn = i := by omega
          have HFZ := Lib.hid (HFR.out)
          go_wp2_with fail
          refine (fetch_nil _).mono ?_
          rintro e1 wt ⟨rfl, hst⟩
          have HFY := Lib.hid ((HFZ.out.same hst).alloc (.cells #[.int .u64 0, .int .u64 0] 32))
          unfold fetV bodyV
          clear hst
          go_wp2_with fail
          refine (deliver_nil _).mono ?_
          rintro e1 wu ⟨rfl, hsu⟩
          have HFX := Lib.hid (HFY.out.same hsu)
          clear hsu
          go_wp2_with fail
          refine (count_nil _).mono ?_
          rintro e1 wv ⟨rfl, rfl⟩
          go_wp2_with fail
          refine (rounds_nil _).mono ?_
          rintro e1 wv ⟨rfl, rfl⟩
          go_wp2_with fail
          go_ret
          exact ⟨rfl, HFX.out.out EB.out⟩
end Go.Proofs.Ytchmhpfccanamaa
