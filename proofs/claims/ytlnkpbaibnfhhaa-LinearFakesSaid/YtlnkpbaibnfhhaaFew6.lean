/- The law's Few: a claim of few targets, few bases, few numbers. -/
import Derived.Test.YtlnkpbaibnfhhaaLinR
set_option linter.unusedVariables false
set_option linter.unusedSimpArgs false
namespace Go.Proofs.Ytlnkpbaibnfhhaa
open Go.RowKit
def FewP (ts : List Int) (bs : List (List Int)) (ls : List (List Int)) : Prop := ts.length ≤ 20 ∧ bs.length ≤ 20 ∧ (∀ j, j < bs.length → (bs.getD j []).length ≤ 20) ∧ ∀ j, j < ls.length → (ls.getD j []).length ≤ 80
noncomputable def fewB (ts : List Int) (bs : List (List Int)) (ls : List (List Int)) : Bool := open Classical in decide (FewP ts bs ls)
theorem fewB_yes {ts : List Int} {bs ls : List (List Int)} (h : FewP ts bs ls) : fewB ts bs ls = true := by unfold fewB; classical exact decide_eq_true h
theorem fewB_no {ts : List Int} {bs ls : List (List Int)} (h : ¬ FewP ts bs ls) : fewB ts bs ls = false := by unfold fewB; classical exact decide_eq_false h
set_option maxHeartbeats 1600000 in
theorem few6_any (ta ba la : Option Addr) (tn tc bn bc ln lc : Nat) (ts : List Int) (bs ls : List (List Int)) (w : World) (ht : IntsAt w ta tn ts) (hb : MatAt w ba bn bs) (hl : MatAt w la ln ls) :
    Calls Try.prog 12 #[.agg #[.slice ta tn tc, .slice ba bn bc], .slice la ln lc] w fun z w' => z = .returned (.bool (fewB ts bs ls)) ∧ Same w w' := by
  obtain ⟨W, eW⟩ : ∃ W, w.alloc (.cells #[.slice ta tn tc, .slice ba bn bc] 29) = W := ⟨_, rfl⟩
  obtain ⟨cx, ec⟩ : ∃ cx, w.heap.size = cx := ⟨_, rfl⟩
  have hS : Same w W := by rw [← eW]; exact (Same.refl w).alloc _
  have c0 : W.cell? ⟨cx, 0, none⟩ = some (.slice ta tn tc) := by rw [← eW, ← ec]; simp [World.cell?_alloc_new]
  have c1 : W.cell? ⟨cx, 1, none⟩ = some (.slice ba bn bc) := by rw [← eW, ← ec]; simp [World.cell?_alloc_new]
  have EW := Lib.hid eW
  have EC := Lib.hid ec
  have HM := Lib.hid hb
  have HL := Lib.hid hl
  have HLT := Lib.hid ht.len
  have HLB := Lib.hid hb.len
  have HLL := Lib.hid hl.len
  have hst := ht.small
  have hsb := hb.small
  have hsl := hl.small
  clear eW ec ht hb hl
  by_cases ht20 : 20 < tn
  · have d1 : decide ((20 : Int) < tn) = true := decide_eq_true (by omega)
    have HV := Lib.hid (fewB_no (ts := ts) (bs := bs) (ls := ls) (fun h => by have := h.1; rw [HLT.out] at this; omega))
    go_enter Try.func12, Try.ntmps12
    go_upto_region 1 with fail
    rw [EW.out, EC.out]
    go_wp2_with fail
    go_ret
    exact ⟨ret_bool HV.out.symm, hS⟩
  have d1 : decide ((20 : Int) < tn) = false := decide_eq_false (by omega)
  by_cases hb20 : 20 < bn
  · have d2 : decide ((20 : Int) < bn) = true := decide_eq_true (by omega)
    have HV := Lib.hid (fewB_no (ts := ts) (bs := bs) (ls := ls) (fun h => by have := h.2.1; rw [HLB.out] at this; omega))
    go_enter Try.func12, Try.ntmps12
    go_upto_region 1 with fail
    rw [EW.out, EC.out]
    go_wp2_with fail
    go_ret
    exact ⟨ret_bool HV.out.symm, hS⟩
  have d2 : decide ((20 : Int) < bn) = false := decide_eq_false (by omega)
  go_enter Try.func12, Try.ntmps12
  go_upto_region 1 with fail
  rw [EW.out, EC.out]
  go_wp2_with fail
  go_loopw [22] (fun s22 wr => ∃ j : Nat, s22 = .int .i64 j ∧ j ≤ bn ∧ Hid (∀ i, i < j → (bs.getD i []).length ≤ 20) ∧ Same w wr) (fun s22 _ => bn - (intOf s22).toNat)
  case atStart => exact ⟨0, rfl, by omega, fun i hi => by omega, hS⟩
  case round =>
    obtain ⟨j, rfl, hj, hup, hD⟩ := hrel
    clear c0 c1
    by_cases hlt : j < bn
    · obtain ⟨mb, mo, hma, hmr⟩ := HM.out.rows (by omega)
      subst hma
      obtain ⟨fa, fn, fc, hcw, hf⟩ := hmr j hlt
      have hc := same_cell hD hcw
      have HFL := Lib.hid hf.len
      have hfs := hf.small
      clear hmr hcw hf
      by_cases h20 : 20 < fn
      · have d3 : decide ((20 : Int) < fn) = true := decide_eq_true (by omega)
        have HV := Lib.hid (fewB_no (ts := ts) (bs := bs) (ls := ls) (fun h => by have := h.2.2.1 j (by rw [HLB.out]; exact hlt); rw [HFL.out] at this; omega))
        go_wp2_with fail
        go_ret
        exact ⟨ret_bool HV.out.symm, hD⟩
      have d3 : decide ((20 : Int) < fn) = false := decide_eq_false (by omega)
      have hup2 : Hid (∀ i, i < j + 1 → (bs.getD i []).length ≤ 20) := fun i hi => by
        by_cases e : i = j
        · subst e; rw [HFL.out]; omega
        · exact hup.out i (by omega)
      clear hup
      go_wp2_with fail
      go_roundw
      case rel => exact ⟨j + 1, by go_num, by omega, hup2, hD⟩
      case measure => simp [intOf]; omega
    · obtain rfl : j = bn := by omega
      go_wp2_with fail
      generalize hwO : wr = wo at *
      clear hwO
      go_loopw [32] (fun s32 wr => ∃ k : Nat, s32 = .int .i64 k ∧ k ≤ ln ∧ Hid (∀ i, i < k → (ls.getD i []).length ≤ 80) ∧ Same w wr) (fun s32 _ => ln - (intOf s32).toNat)
      case atStart => exact ⟨0, rfl, by omega, fun i hi => by omega, hD⟩
      case round =>
        clear hD
        obtain ⟨k, rfl, hk, hup2, hD⟩ := hrel
        by_cases hlt2 : k < ln
        · obtain ⟨mb, mo, hma, hmr⟩ := HL.out.rows (by omega)
          subst hma
          obtain ⟨fa, fn, fc, hcw, hf⟩ := hmr k hlt2
          have hc := same_cell hD hcw
          have HFL := Lib.hid hf.len
          have hfs := hf.small
          clear hmr hcw hf
          by_cases h80 : 80 < fn
          · have d3 : decide ((80 : Int) < fn) = true := decide_eq_true (by omega)
            have HV := Lib.hid (fewB_no (ts := ts) (bs := bs) (ls := ls) (fun h => by have := h.2.2.2 k (by rw [HLL.out]; exact hlt2); rw [HFL.out] at this; omega))
            go_wp2_with fail
            go_ret
            exact ⟨ret_bool HV.out.symm, hD⟩
          have d3 : decide ((80 : Int) < fn) = false := decide_eq_false (by omega)
          have hup4 : Hid (∀ i, i < k + 1 → (ls.getD i []).length ≤ 80) := fun i hi => by
            by_cases e : i = k
            · subst e; rw [HFL.out]; omega
            · exact hup2.out i (by omega)
          clear hup2
          go_wp2_with fail
          go_roundw
          case rel => exact ⟨k + 1, by go_num, by omega, hup4, hD⟩
          case measure => simp [intOf]; omega
        · obtain rfl : k = ln := by omega
          have HV := Lib.hid (fewB_yes (ts := ts) (bs := bs) (ls := ls) ⟨by rw [HLT.out]; omega, by rw [HLB.out]; omega, by rw [HLB.out]; exact hup.out, by rw [HLL.out]; exact hup2.out⟩)
          clear hup hup2
          go_wp2_with fail
          go_ret
          exact ⟨ret_bool HV.out.symm, hD⟩
end Go.Proofs.Ytlnkpbaibnfhhaa
